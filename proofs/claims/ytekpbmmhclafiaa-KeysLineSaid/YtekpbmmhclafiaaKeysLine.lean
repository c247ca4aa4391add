/- KeysLine: what goes to the line is even, its seven bits as they were, not longer; what a key sends has three bytes at most, of seven bits. No condition. -/
import Derived.Test.YtekpbmmhclafiaaRows
import Derived.Test.YtekpbmmhclafiaaSimT
import Derived.Test.YtekpbmmhclafiaaSimGuard
import Derived.Test.YtekpbmmhclafiaaPkeys3
import Derived.Test.YtekpbmmhclafiaaPsame
set_option maxRecDepth 100000
set_option maxHeartbeats 4000000
set_option linter.unusedSimpArgs false
set_option linter.unusedVariables false
namespace Go.Proofs.Ytekpbmmhclafiaa.keysLine
open Go Go.Sim
attribute [local congr] ite_congr go_congr goOps_congr stepK_congr ret_congr headK_congr condK_congr guardR_congr guardS_congr
attribute [local simp] go_skip go_ret go_exit go_region go_seq go_cond go_block go_loop ret_nil ret_seq ret_seq_exit ret_seq_ret ret_blk ret_blk_ret ret_blk_exit ret_loop ret_loop_exit ret_loop_ret loopK_head goOps_nil goOps_cons goOps_guardR guardR_some guardS_bool guardS_tup stepK_some stepK_none stepK_ite condK_bool fin
attribute [local simp] denOp operand aget aput adel putD tidy trim getAll freezeAll freezeOne lentOut oneOrTup argEnv lentHeap ofConst ofScalar aCall lendAll lend lentApart lentFree readFree giveBack adopt aBin aUn L Ls mkA getRes asInt? bnd okRead okStore Ann.storeAt lendSize firstRegion List.find?_cons List.find?_nil
attribute [local simp] aInt_add aInt_sub aInt_mul aInt_quo aInt_rem aInt_and aInt_or aInt_xor aInt_andNot aInt_eql aInt_neq aInt_lss aInt_leq aInt_gtr aInt_geq aShift_shl aShift_shr
attribute [local simp] bAnd_u8 bOr_u8 bXor_u8 bAndNot_u8 bShl_u8 wrap_u8_range
attribute [local simp] aBuiltin slLen slCells aAppend newBlk blkOf putCells rdCells TI.isAgg aLoad aStore setR cutA aSlice aStrSlice fillA parts slElem fieldOf freezeSl freezeAgg AV.cells AV.solid AV.isRef repl
attribute [local simp] w_i64 w_u64 w_u8 all_plain_int all_plain_bool all_plain_app pl_bool pl_int pl_str pl_nilp pl_nsl pl_nilI pl_nilF pl_msl pl_ref pl_isl pl_fsl pl_agg take_map_len nat_not_neg int_beq int_bne Int.natCast_inj all_pc_bool all_pc_int all_take_bool all_drop_bool all_take_int all_drop_int

theorem facts (c : Int) (h0 : 0 ≤ c) (h1 : c < 256) : bAnd .u8 (makeEvenI c) 127 = bAnd .u8 c 127 ∧ oddI (makeEvenI c) = false ∧ 0 ≤ makeEvenI c ∧ makeEvenI c < 256 := by
  obtain ⟨n, rfl⟩ : ∃ n : Nat, c = n := ⟨c.toNat, by omega⟩
  have h : allB (fun c => decide (bAnd .u8 (makeEvenI c) 127 = bAnd .u8 c 127 ∧ oddI (makeEvenI c) = false ∧ 0 ≤ makeEvenI c ∧ makeEvenI c < 256)) 256 = true := by decide +kernel
  exact of_decide_eq_true (allB_get (p := fun c => decide (bAnd .u8 (makeEvenI c) 127 = bAnd .u8 c 127 ∧ oddI (makeEvenI c) = false ∧ 0 ≤ makeEvenI c ∧ makeEvenI c < 256)) h (by omega))
theorem short (l e c0 : Bool) (key : Int) : (keyL l e c0 key).length ≤ 3 ∧ (∀ x ∈ keyL l e c0 key, x ≤ 127) ∧ (¬ (32 ≤ key ∧ key ≤ 126) → key ∉ allKeys → keyL l e c0 key = []) := by
  unfold keyL
  by_cases h1 : 32 ≤ key ∧ key ≤ 126
  · rw [if_pos h1]
    refine ⟨by simp, ?_, fun h => absurd h1 h⟩
    simp only [List.mem_cons, List.not_mem_nil, or_false, forall_eq, letterI]
    split <;> omega
  rw [if_neg h1]
  by_cases h2 : 321 ≤ key ∧ key ≤ 329
  · rw [if_pos h2]
    refine ⟨by simp, ?_, fun _ h => absurd ?_ h⟩
    · simp only [List.mem_cons, List.not_mem_nil, or_false, forall_eq_or_imp, forall_eq]
      omega
    · simp only [allKeys, List.mem_cons, List.not_mem_nil, or_false]; omega
  rw [if_neg h2]
  by_cases h3 : 416 ≤ key ∧ key ≤ 419
  · rw [if_pos h3]
    refine ⟨by unfold arrowL; repeat' split
               all_goals simp, ?_, fun _ h => absurd ?_ h⟩
    · unfold arrowL
      repeat' split
      all_goals simp only [List.mem_cons, List.not_mem_nil, or_false, forall_eq_or_imp, forall_eq, false_implies, implies_true]
      all_goals omega
    · simp only [allKeys, List.mem_cons, List.not_mem_nil, or_false]; omega
  rw [if_neg h3]
  by_cases h4 : key = 420
  · rw [if_pos h4]
    exact ⟨by simp, by simp, fun _ h => absurd (by simp only [allKeys, List.mem_cons, List.not_mem_nil, or_false]; omega) h⟩
  rw [if_neg h4]
  by_cases h5 : key = 421 ∧ e = true
  · rw [if_pos h5]
    exact ⟨by simp, by simp, fun _ h => absurd (by simp only [allKeys, List.mem_cons, List.not_mem_nil, or_false]; omega) h⟩
  rw [if_neg h5]
  exact ⟨by simp, by simp, fun _ _ => rfl⟩
theorem main (xs : List Int) (hx : ∀ x ∈ xs, 0 ≤ x ∧ x < 256) (key : Int) (l e c0 : Bool) : callω L T 6 0 [.isl 1 xs.length (xs.map (.int .u8)), .int .i64 key, .bool l, .bool e, .bool c0] [none, none, none, none, none] = some (.bool true, [none, none, none, none, none]) := by
  rw [call_go (show T 6 = some (.code a6) from rfl) rfl rfl]
  by_cases hl : 60 < xs.length
  · have hl2 : ¬ (xs.length : Int) ≤ 60 := by omega
    simp [-List.all_eq_true, a6, Try.f6, t_law26_first, hl2]
  have hl2 : (xs.length : Int) ≤ 60 := by omega
  have h4 := fun tag => t_keys_Line tag xs (by omega)
  simp [-List.all_eq_true, a6, Try.f6, t_law26_first, hl, hl2, h4]
  refine headK_up (fun k => { env := [(0, .isl 1 xs.length (xs.map (.int .u8))), (1, .int .i64 key), (2, .bool l), (3, .bool e), (4, .bool c0), (11, .bool true), (12, .fsl 1 xs.length (xs.map fun x => .int .u8 (makeEvenI x))), (13, .int .i64 (k : Int))], heap := [], next := 1, tag := 0 }) xs.length _ ?_ ?_ 0 (by omega)
  · intro i hi
    have hb := hx xs[i] (List.getElem_mem hi)
    obtain ⟨f1, f2, f3, f4⟩ := facts xs[i] hb.1 hb.2
    have ho := fun tag => t_ref1_Odd tag (makeEvenI xs[i]) f3 f4
    simp [-List.all_eq_true, hi, ho, f1, f2, wrap_succ hi (by omega)]
  · have tb := fun tag => t_keys_Bytes tag false l e c0 100 false key
    have ts := fun tag => t_law26_state tag l e c0
    simp only [stV, startB, List.map_cons, List.map_nil, List.cons_append, List.nil_append] at ts tb
    obtain ⟨s1, s2, s3⟩ := short l e c0 key
    generalize keyL l e c0 key = K at *
    simp [-List.all_eq_true, ts, tb]
    refine headK_up (fun k => { env := [(1, .int .i64 key), (11, .bool true), (16, .fsl 1 K.length (K.map (.int .u8))), (17, .int .i64 (k : Int))], heap := [], next := 3, tag := 0 }) K.length _ ?_ ?_ 0 (by omega)
    · intro i hi
      have hb := s2 K[i] (List.getElem_mem hi)
      have hb2 : ¬ 127 < K[i] := by omega
      simp [-List.all_eq_true, hi, hb, hb2, wrap_succ hi (by omega)]
    · have ha := fun tag => t_keys_All tag
      have hh := fun tag => t_Has tag allKeys key (by decide)
      have s4 : (K.length : Int) ≤ 3 := by omega
      generalize allKeys = A at *
      by_cases g1 : 32 ≤ key ∧ key ≤ 126
      · simp [-List.all_eq_true, g1, ha, hh, s1, s4]
      · by_cases g2 : key ∈ A
        · by_cases g3 : 32 ≤ key
          · have g4 : ¬ key ≤ 126 := by omega
            simp [-List.all_eq_true, g3, g4, g2, ha, hh, s1, s4]
          · simp [-List.all_eq_true, g3, g2, ha, hh, s1, s4]
        · have e := s3 g1 g2
          subst e
          by_cases g3 : 32 ≤ key
          · have g4 : ¬ key ≤ 126 := by omega
            simp [-List.all_eq_true, g3, g4, g2, ha, hh]
          · simp [-List.all_eq_true, g3, g2, ha, hh]
theorem law (cs : List AV) (h : ShpAll L 5 Try.f6.params.toList cs) : ∃ lent, callω L T 6 0 cs (List.replicate Try.f6.params.toList.length none) = some (.bool true, lent) := by
  rw [Try.params6] at h
  obtain ⟨parts, _, rfl, _, hp, h5⟩ := shpAll_slice rfl rfl h
  obtain ⟨key, _, rfl, _, h1⟩ := shpAll_int rfl h5
  obtain ⟨l, _, rfl, h2⟩ := shpAll_bool rfl h1
  obtain ⟨e, _, rfl, h3⟩ := shpAll_bool rfl h2
  obtain ⟨c, _, rfl, h4⟩ := shpAll_bool rfl h3
  obtain rfl := shpAll_nil h4
  obtain ⟨xs, e1, e2, e3⟩ := ints_of_parts (n := 3) rfl parts hp
  rw [e1, ← e2]
  exact ⟨_, main xs (fun x hx => by obtain ⟨m, rfl, hm⟩ := u8_wf (e3 x hx); omega) key l e c⟩

open Go.ChangeShapes Go.WideShapes Go.ChangeAt Go.RowKit
theorem lifted (os : Os) (started : os.Started) (H : Type) (enc : TypeId × Value → H) :
    ReturnsInHanded {} Try.checked os 6 .any (Rows.keysLineSpec.pre6 enc Try.prog Try.f6 Rows.keysLineRow.domain false) (Rows.keysLineSpec.post enc Try.prog Try.f6 false true false false) := by
  refine law_lift (C := Try.checked) (n := 5) own started (by kernel_rfl) Try.func6 L_ok T_ok (show T 6 = some (.code a6) from rfl) laid (by kernel_rfl) rfl Try.underlying4 rfl ?_ law
    (ChangeSpec.witness6 (enc := enc) (C := Try.checked) false ⟨#[], #[.slice none 0 0, .int .i64 0, .bool false, .bool false, .bool false], []⟩ 8 (by kernel_rfl) (by kernel_rfl) (by kernel_rfl) (by kernel_rfl))
  intro H ds hl
  rw [Try.params6] at hl
  match ds, hl with
  | [d1, d2, d3, d4, d5], _ => rfl

theorem over : Rows.keysLineRow.holds Try.pinned (OpenSpec.ofChange Rows.keysLineSpec) :=
  OpenClaim.holds_of_wide 6 Try.f6 rfl rfl rfl rfl rfl rfl rfl ⟨rfl, rfl, rfl, rfl, rfl⟩ rfl rfl rfl rfl rfl (by kernel_rfl) Try.func6 (by kernel_rfl)
    (of_decide_eq_true (by kernel_rfl)) (by unfold Func.isWrapper; first | (rw [if_pos (by decide +kernel)]; kernel_rfl) | (rw [if_neg (by decide +kernel)]; exact ⟨rfl, rfl⟩))
    (fun os started H enc _ => lifted os started H enc)

theorem proved : Rows.KeysLineSaid :=
  over
#print axioms proved
end Go.Proofs.Ytekpbmmhclafiaa.keysLine
