/- HamSays: any number's byte, what any byte is, numbers in a row and bytes in a row are what the document's answer says. No condition. -/
import Derived.Test.YtfnknlaaaiekpaaRows
import Derived.Test.YtfnknlaaaiekpaaSimT
import Derived.Test.YtfnknlaaaiekpaaSimGuard
import Derived.Test.YtfnknlaaaiekpaaPham
set_option maxRecDepth 100000
set_option maxHeartbeats 4000000
set_option linter.unusedSimpArgs false
set_option linter.unusedVariables false
namespace Go.Proofs.Ytfnknlaaaiekpaa.hamSays
open Go Go.Sim
attribute [local congr] ite_congr go_congr goOps_congr stepK_congr ret_congr headK_congr condK_congr guardR_congr guardS_congr
attribute [local simp] go_skip go_ret go_exit go_region go_seq go_cond go_block go_loop ret_nil ret_seq ret_seq_exit ret_seq_ret ret_blk ret_blk_ret ret_blk_exit ret_loop ret_loop_exit ret_loop_ret loopK_head goOps_nil goOps_cons goOps_guardR guardR_some guardS_bool guardS_tup stepK_some stepK_none stepK_ite condK_bool fin
attribute [local simp] denOp operand aget aput adel putD tidy trim getAll freezeAll freezeOne lentOut oneOrTup argEnv lentHeap ofConst ofScalar aCall lendAll lend lentApart lentFree readFree giveBack adopt aBin aUn L Ls mkA getRes asInt? bnd okRead okStore Ann.storeAt lendSize firstRegion List.find?_cons List.find?_nil
attribute [local simp] aInt_add aInt_sub aInt_mul aInt_quo aInt_rem aInt_and aInt_or aInt_xor aInt_andNot aInt_eql aInt_neq aInt_lss aInt_leq aInt_gtr aInt_geq aShift_shl aShift_shr
attribute [local simp] bAnd_u8 bOr_u8 bXor_u8 bAndNot_u8 bShl_u8 wrap_u8_range
attribute [local simp] aBuiltin slLen slCells aAppend newBlk blkOf putCells rdCells TI.isAgg aLoad aStore setR cutA aSlice aStrSlice fillA parts slElem fieldOf freezeSl freezeAgg AV.cells AV.solid AV.isRef repl
attribute [local simp] w_i64 w_u64 w_u8 all_plain_int all_plain_bool all_plain_app pl_bool pl_int pl_str pl_nilp pl_nsl pl_nilI pl_nilF pl_msl pl_ref pl_isl pl_fsl pl_agg take_map_len nat_not_neg int_beq int_bne Int.natCast_inj all_pc_bool all_pc_int all_take_bool all_drop_bool all_take_int all_drop_int

theorem main (n : Int) (b : Nat) (hb : b < 256) (ls xs : List Int) (hx : ∀ x ∈ xs, 0 ≤ x ∧ x < 256) : callω L T 5 0 [.int .i64 n, .int .u8 b, .isl 1 ls.length (ls.map (.int .i64)), .isl 1 xs.length (xs.map (.int .u8))] [none, none, none, none] = some (.bool true, [none, none, none, none]) := by
  rw [call_go (show T 5 = some (.code a5) from rfl) rfl rfl]
  by_cases hl : 60 < ls.length
  · have hl2 : ¬ (ls.length : Int) ≤ 60 := by omega
    simp [-List.all_eq_true, a5, Try.f5, t_law2_first, hl2]
  have hl2 : (ls.length : Int) ≤ 60 := by omega
  by_cases hm : 60 < xs.length
  · have hm2 : ¬ (xs.length : Int) ≤ 60 := by omega
    simp [-List.all_eq_true, a5, Try.f5, t_law2_first, hl2, hm2]
  have hm2 : (xs.length : Int) ≤ 60 := by omega
  have tg := fun tag => t_ham_Get tag b hb
  have tr := fun tag => t_ref1_Get tag b hb
  have tw := fun tag => t_ham_Row tag ls (by omega)
  have to := fun tag => t_ham_Open tag xs hx (by omega)
  simp [-List.all_eq_true, a5, Try.f5, t_law2_first, hl, hl2, hm, hm2, tg, tr, tw, t_ham_Put, t_ref1_Put]
  refine headK_up (fun k => { env := [(2, .isl 1 ls.length (ls.map (.int .i64))), (3, .isl 1 xs.length (xs.map (.int .u8))), (9, .bool true), (14, .fsl 1 ls.length (ls.map fun x => .int .u8 (putI x))), (15, .int .i64 (k : Int))], heap := [], next := 1, tag := 0 }) ls.length _ ?_ ?_ 0 (by omega)
  · intro i hi
    simp [-List.all_eq_true, hi, t_ref1_Put, wrap_succ hi (by omega)]
  · simp [-List.all_eq_true, to]
    refine headK_ind (X := Nat) (fun k => { env := [(3, .isl 1 xs.length (xs.map (.int .u8))), (9, .bool true), (16, .fsl 1 (openL xs).length ((openL xs).map (.int .i64))), (17, .bool (openOk xs)), (18, .bool (openOk (xs.take k))), (19, .int .i64 (k : Int))], heap := [], next := 1, tag := 0 }) (fun _ => some (.bool true, [none, none, none, none])) (fun k => xs.length - k) (fun k => k ≤ xs.length) ?_ 0 (by omega)
    intro k hk ih
    rcases Nat.lt_or_ge k xs.length with h | h
    · have hb := hx xs[k] (List.getElem_mem h)
      have hG := fun tag => t_ref1_Get tag xs[k].toNat (by omega)
      rw [show ((xs[k].toNat : Nat) : Int) = xs[k] from by omega] at hG
      have hs : openOk (xs.take (k + 1)) = (openOk (xs.take k) && (getN xs[k].toNat).2) := by
        unfold openOk
        rw [List.take_add_one, List.getElem?_eq_getElem h, List.all_append]
        simp only [Option.toList, List.all_cons, List.all_nil, Bool.and_true]
      have hn := ih (k + 1) (by omega) (by omega)
      rw [hs] at hn
      cases hq : openOk (xs.take k)
      · rw [hq] at hn
        simp [-List.all_eq_true, h, hG, hq, wrap_succ h (by omega)]
        exact hn
      · rw [hq] at hn
        simp [-List.all_eq_true, h, hG, hq, wrap_succ h (by omega)]
        exact hn
    · have : k = xs.length := by omega
      subst this
      clear ih
      cases ho : openOk xs
      · have e : openL xs = [] := by unfold openL; rw [ho]; rfl
        rw [e]
        simp [-List.all_eq_true, ho]
      · have e : openL xs = xs.map fun x => ((getN x.toNat).1 : Int) := by unfold openL; rw [ho]; rfl
        rw [e]
        simp [-List.all_eq_true, ho]
        clear tg tr tw to
        refine headK_up (fun k => { env := [(3, .isl 1 xs.length (xs.map (.int .u8))), (9, .bool true), (16, .fsl 1 xs.length (xs.map (AV.int IntKind.i64 ∘ fun x => ((getN x.toNat).1 : Int)))), (22, .int .i64 (k : Int))], heap := [], next := 1, tag := 0 }) xs.length _ ?_ ?_ 0 (by omega)
        · intro k h
          have hb := hx xs[k] (List.getElem_mem h)
          have hG := fun tag => t_ref1_Get tag xs[k].toNat (by omega)
          rw [show ((xs[k].toNat : Nat) : Int) = xs[k] from by omega] at hG
          simp [-List.all_eq_true, h, hG, wrap_succ h (by omega)]
        · simp [-List.all_eq_true, ]
theorem law (cs : List AV) (h : ShpAll L 5 Try.f5.params.toList cs) : ∃ lent, callω L T 5 0 cs (List.replicate Try.f5.params.toList.length none) = some (.bool true, lent) := by
  rw [Try.params5] at h
  obtain ⟨n, _, rfl, _, h1⟩ := shpAll_int rfl h
  obtain ⟨b, _, rfl, hb, h2⟩ := shpAll_int rfl h1
  obtain ⟨parts, _, rfl, _, hp, h3⟩ := shpAll_slice rfl rfl h2
  obtain ⟨parts2, _, rfl, _, hp2, h4⟩ := shpAll_slice rfl rfl h3
  obtain rfl := shpAll_nil h4
  obtain ⟨b, rfl, hb2⟩ := u8_wf hb
  obtain ⟨ls, e1, e2, e3⟩ := ints_of_parts (n := 3) rfl parts hp
  obtain ⟨xs, e4, e5, e6⟩ := ints_of_parts (n := 3) rfl parts2 hp2
  rw [e1, ← e2, e4, ← e5]
  exact ⟨_, main n b hb2 ls xs (fun x hx => by obtain ⟨m, rfl, hm⟩ := u8_wf (e6 x hx); omega)⟩

open Go.ChangeShapes Go.WideShapes Go.ChangeAt Go.RowKit
theorem lifted (os : Os) (started : os.Started) (H : Type) (enc : TypeId × Value → H) :
    ReturnsInHanded {} Try.checked os 5 .any (Rows.hamSaysSpec.pre6 enc Try.prog Try.f5 Rows.hamSaysRow.domain false) (Rows.hamSaysSpec.post enc Try.prog Try.f5 false true false false) := by
  refine law_lift (C := Try.checked) (n := 5) own started (by kernel_rfl) Try.func5 L_ok T_ok (show T 5 = some (.code a5) from rfl) laid (by kernel_rfl) rfl Try.underlying4 rfl ?_ law
    (ChangeSpec.witness6 (enc := enc) (C := Try.checked) false ⟨#[], #[.int .i64 0, .int .u8 0, .slice none 0 0, .slice none 0 0], []⟩ 8 (by kernel_rfl) (by kernel_rfl) (by kernel_rfl) (by kernel_rfl))
  intro H ds hl
  rw [Try.params5] at hl
  match ds, hl with
  | [d1, d2, d3, d4], _ => rfl

theorem over : Rows.hamSaysRow.holds Try.pinned (OpenSpec.ofChange Rows.hamSaysSpec) :=
  OpenClaim.holds_of_wide 5 Try.f5 rfl rfl rfl rfl rfl rfl rfl ⟨rfl, rfl, rfl, rfl, rfl⟩ rfl rfl rfl rfl rfl (by kernel_rfl) Try.func5 (by kernel_rfl)
    (of_decide_eq_true (by kernel_rfl)) (by unfold Func.isWrapper; first | (rw [if_pos (by decide +kernel)]; kernel_rfl) | (rw [if_neg (by decide +kernel)]; exact ⟨rfl, rfl⟩))
    (fun os started H enc _ => lifted os started H enc)

theorem proved : Rows.HamSaysSaid :=
  over
#print axioms proved
end Go.Proofs.Ytfnknlaaaiekpaa.hamSays
