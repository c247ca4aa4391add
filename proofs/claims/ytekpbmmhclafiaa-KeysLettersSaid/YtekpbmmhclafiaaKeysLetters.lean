/- KeysLetters: letters are great ones, unless small ones were asked for, other signs are themselves, what is on the line is even, its seven bits as they were. No condition. -/
import Derived.Test.YtekpbmmhclafiaaRows
import Derived.Test.YtekpbmmhclafiaaSimT
import Derived.Test.YtekpbmmhclafiaaSimGuard
import Derived.Test.YtekpbmmhclafiaaPkeys3
import Derived.Test.YtekpbmmhclafiaaPsame
set_option maxRecDepth 100000
set_option maxHeartbeats 4000000
set_option linter.unusedSimpArgs false
set_option linter.unusedVariables false
namespace Go.Proofs.Ytekpbmmhclafiaa.keysLetters
open Go Go.Sim
attribute [local congr] ite_congr go_congr goOps_congr stepK_congr ret_congr headK_congr condK_congr guardR_congr guardS_congr
attribute [local simp] go_skip go_ret go_exit go_region go_seq go_cond go_block go_loop ret_nil ret_seq ret_seq_exit ret_seq_ret ret_blk ret_blk_ret ret_blk_exit ret_loop ret_loop_exit ret_loop_ret loopK_head goOps_nil goOps_cons goOps_guardR guardR_some guardS_bool guardS_tup stepK_some stepK_none stepK_ite condK_bool fin
attribute [local simp] denOp operand aget aput adel putD tidy trim getAll freezeAll freezeOne lentOut oneOrTup argEnv lentHeap ofConst ofScalar aCall lendAll lend lentApart lentFree readFree giveBack adopt aBin aUn L Ls mkA getRes asInt? bnd okRead okStore Ann.storeAt lendSize firstRegion List.find?_cons List.find?_nil
attribute [local simp] aInt_add aInt_sub aInt_mul aInt_quo aInt_rem aInt_and aInt_or aInt_xor aInt_andNot aInt_eql aInt_neq aInt_lss aInt_leq aInt_gtr aInt_geq aShift_shl aShift_shr
attribute [local simp] bAnd_u8 bOr_u8 bXor_u8 bAndNot_u8 bShl_u8 wrap_u8_range
attribute [local simp] aBuiltin slLen slCells aAppend newBlk blkOf putCells rdCells TI.isAgg aLoad aStore setR cutA aSlice aStrSlice fillA parts slElem fieldOf freezeSl freezeAgg AV.cells AV.solid AV.isRef repl
attribute [local simp] w_i64 w_u64 w_u8 all_plain_int all_plain_bool all_plain_app pl_bool pl_int pl_str pl_nilp pl_nsl pl_nilI pl_nilF pl_msl pl_ref pl_isl pl_fsl pl_agg take_map_len nat_not_neg int_beq int_bne Int.natCast_inj all_pc_bool all_pc_int all_take_bool all_drop_bool all_take_int all_drop_int

theorem facts (c : Int) (h0 : 0 ≤ c) (h1 : c < 128) : bAnd .u8 (makeEvenI c) 127 = c ∧ oddI (makeEvenI c) = false ∧ 0 ≤ makeEvenI c ∧ makeEvenI c < 256 := by
  obtain ⟨n, rfl⟩ : ∃ n : Nat, c = n := ⟨c.toNat, by omega⟩
  have h : allB (fun c => decide (bAnd .u8 (makeEvenI c) 127 = c ∧ oddI (makeEvenI c) = false ∧ 0 ≤ makeEvenI c ∧ makeEvenI c < 256)) 128 = true := by decide +kernel
  exact of_decide_eq_true (allB_get (p := fun c => decide (bAnd .u8 (makeEvenI c) 127 = c ∧ oddI (makeEvenI c) = false ∧ 0 ≤ makeEvenI c ∧ makeEvenI c < 256)) h (by omega))
theorem low (c : Int) (h0 : 0 ≤ c) (h1 : c < 256) : 0 ≤ bAnd .u8 c 127 ∧ bAnd .u8 c 127 < 128 := by
  obtain ⟨n, rfl⟩ : ∃ n : Nat, c = n := ⟨c.toNat, by omega⟩
  have h : allB (fun c => decide (0 ≤ bAnd .u8 c 127 ∧ bAnd .u8 c 127 < 128)) 256 = true := by decide +kernel
  exact of_decide_eq_true (allB_get (p := fun c => decide (0 ≤ bAnd .u8 c 127 ∧ bAnd .u8 c 127 < 128)) h (by omega))
theorem main (b : Int) (hb : 0 ≤ b) (hb2 : b < 256) (l e c0 : Bool) : callω L T 5 0 [.int .u8 b, .bool l, .bool e, .bool c0] [none, none, none, none] = some (.bool true, [none, none, none, none]) := by
  rw [call_go (show T 5 = some (.code a5) from rfl) rfl rfl]
  obtain ⟨l0, l1⟩ := low b hb hb2
  generalize hc : bAnd .u8 b 127 = c at l0 l1
  by_cases h1 : c < 32
  · simp [-List.all_eq_true, a5, Try.f5, t_law26_first, hc, h1]
  by_cases h2 : c = 127
  · subst h2
    simp [-List.all_eq_true, a5, Try.f5, t_law26_first, hc]
  have tb := fun tag => t_keys_Bytes tag false l e c0 100 false c
  have ts := fun tag => t_law26_state tag l e c0
  have hw : 0 ≤ letterI l c ∧ letterI l c < 128 := by unfold letterI; split <;> omega
  obtain ⟨f1, f2, f3, f4⟩ := facts _ hw.1 hw.2
  have hk : keyL l e c0 c = [letterI l c] := by unfold keyL; rw [if_pos (by omega)]
  have h4 := fun tag => t_keys_Line tag [letterI l c] (by simp)
  have ho := fun tag => t_ref1_Odd tag (makeEvenI (letterI l c)) f3 f4
  simp only [stV, startB, List.map_cons, List.map_nil, List.cons_append, List.nil_append] at ts tb
  have e1 : IntKind.i64.wrap c = c := w_i64 (by omega) (by omega)
  have e2 : ¬ c ≤ 31 := by omega
  have e3 : 32 ≤ c := by omega
  simp only [hk, List.map_cons, List.map_nil, List.length_cons, List.length_nil] at tb h4
  by_cases g1 : 97 ≤ c
  · by_cases g2 : c ≤ 122
    · have e4 : IntKind.u8.wrap (c - 32) = c - 32 := w_u8 (by omega) (by omega)
      cases l
      · have lt : letterI false c = c - 32 := by unfold letterI; rw [if_pos ⟨g1, g2, rfl⟩]
        simp [-List.all_eq_true, a5, Try.f5, t_law26_first, hc, h1, h2, ts, tb, h4, ho, f1, f2, e1, e2, e3, e4, g1, g2]
        simp [lt]
      · have lt : letterI true c = c := by unfold letterI; rw [if_neg (fun h => by cases h.2.2)]
        simp [-List.all_eq_true, a5, Try.f5, t_law26_first, hc, h1, h2, ts, tb, h4, ho, f1, f2, e1, e2, e3, e4, g1, g2]
        simp [lt]
    · have lt : letterI l c = c := by unfold letterI; rw [if_neg (fun h => g2 h.2.1)]
      simp [-List.all_eq_true, a5, Try.f5, t_law26_first, hc, h1, h2, ts, tb, h4, ho, f1, f2, e1, e2, e3, g1, g2]
      simp [lt]
  · have lt : letterI l c = c := by unfold letterI; rw [if_neg (fun h => g1 h.1)]
    simp [-List.all_eq_true, a5, Try.f5, t_law26_first, hc, h1, h2, ts, tb, h4, ho, f1, f2, e1, e2, e3, g1]
    simp [lt]
theorem law (cs : List AV) (h : ShpAll L 5 Try.f5.params.toList cs) : ∃ lent, callω L T 5 0 cs (List.replicate Try.f5.params.toList.length none) = some (.bool true, lent) := by
  rw [Try.params5] at h
  obtain ⟨c, _, rfl, hc, h1⟩ := shpAll_int rfl h
  obtain ⟨l, _, rfl, h2⟩ := shpAll_bool rfl h1
  obtain ⟨e, _, rfl, h3⟩ := shpAll_bool rfl h2
  obtain ⟨c0, _, rfl, h4⟩ := shpAll_bool rfl h3
  obtain rfl := shpAll_nil h4
  obtain ⟨n, rfl, hn⟩ := u8_wf hc
  exact ⟨_, main n (by omega) (by omega) l e c0⟩

open Go.ChangeShapes Go.WideShapes Go.ChangeAt Go.RowKit
theorem lifted (os : Os) (started : os.Started) (H : Type) (enc : TypeId × Value → H) :
    ReturnsInHanded {} Try.checked os 5 .any (Rows.keysLettersSpec.pre6 enc Try.prog Try.f5 Rows.keysLettersRow.domain false) (Rows.keysLettersSpec.post enc Try.prog Try.f5 false true false false) := by
  refine law_lift (C := Try.checked) (n := 5) own started (by kernel_rfl) Try.func5 L_ok T_ok (show T 5 = some (.code a5) from rfl) laid (by kernel_rfl) rfl Try.underlying4 rfl ?_ law
    (ChangeSpec.witness6 (enc := enc) (C := Try.checked) false ⟨#[], #[.int .u8 0, .bool false, .bool false, .bool false], []⟩ 8 (by kernel_rfl) (by kernel_rfl) (by kernel_rfl) (by kernel_rfl))
  intro H ds hl
  rw [Try.params5] at hl
  match ds, hl with
  | [d1, d2, d3, d4], _ => rfl

theorem over : Rows.keysLettersRow.holds Try.pinned (OpenSpec.ofChange Rows.keysLettersSpec) :=
  OpenClaim.holds_of_wide 5 Try.f5 rfl rfl rfl rfl rfl rfl rfl ⟨rfl, rfl, rfl, rfl, rfl⟩ rfl rfl rfl rfl rfl (by kernel_rfl) Try.func5 (by kernel_rfl)
    (of_decide_eq_true (by kernel_rfl)) (by unfold Func.isWrapper; first | (rw [if_pos (by decide +kernel)]; kernel_rfl) | (rw [if_neg (by decide +kernel)]; exact ⟨rfl, rfl⟩))
    (fun os started H enc _ => lifted os started H enc)

theorem proved : Rows.KeysLettersSaid :=
  over
#print axioms proved
end Go.Proofs.Ytekpbmmhclafiaa.keysLetters
