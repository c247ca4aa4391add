/- KeysModes: each of the nine has two bytes in every mode, unlike; arrows have three, one, or none. No condition. -/
import Derived.Test.YtekpbmmhclafiaaRows
import Derived.Test.YtekpbmmhclafiaaSimT
import Derived.Test.YtekpbmmhclafiaaSimGuard
import Derived.Test.YtekpbmmhclafiaaPkeys3
import Derived.Test.YtekpbmmhclafiaaPsame
set_option maxRecDepth 100000
set_option maxHeartbeats 4000000
set_option linter.unusedSimpArgs false
set_option linter.unusedVariables false
namespace Go.Proofs.Ytekpbmmhclafiaa.keysModes
open Go Go.Sim
attribute [local congr] ite_congr go_congr goOps_congr stepK_congr ret_congr headK_congr condK_congr guardR_congr guardS_congr
attribute [local simp] go_skip go_ret go_exit go_region go_seq go_cond go_block go_loop ret_nil ret_seq ret_seq_exit ret_seq_ret ret_blk ret_blk_ret ret_blk_exit ret_loop ret_loop_exit ret_loop_ret loopK_head goOps_nil goOps_cons goOps_guardR guardR_some guardS_bool guardS_tup stepK_some stepK_none stepK_ite condK_bool fin
attribute [local simp] denOp operand aget aput adel putD tidy trim getAll freezeAll freezeOne lentOut oneOrTup argEnv lentHeap ofConst ofScalar aCall lendAll lend lentApart lentFree readFree giveBack adopt aBin aUn L Ls mkA getRes asInt? bnd okRead okStore Ann.storeAt lendSize firstRegion List.find?_cons List.find?_nil
attribute [local simp] aInt_add aInt_sub aInt_mul aInt_quo aInt_rem aInt_and aInt_or aInt_xor aInt_andNot aInt_eql aInt_neq aInt_lss aInt_leq aInt_gtr aInt_geq aShift_shl aShift_shr
attribute [local simp] bAnd_u8 bOr_u8 bXor_u8 bAndNot_u8 bShl_u8 wrap_u8_range
attribute [local simp] aBuiltin slLen slCells aAppend newBlk blkOf putCells rdCells TI.isAgg aLoad aStore setR cutA aSlice aStrSlice fillA parts slElem fieldOf freezeSl freezeAgg AV.cells AV.solid AV.isRef repl
attribute [local simp] w_i64 w_u64 w_u8 all_plain_int all_plain_bool all_plain_app pl_bool pl_int pl_str pl_nilp pl_nsl pl_nilI pl_nilF pl_msl pl_ref pl_isl pl_fsl pl_agg take_map_len nat_not_neg int_beq int_bne Int.natCast_inj all_pc_bool all_pc_int all_take_bool all_drop_bool all_take_int all_drop_int

theorem mod9 (x : Int) : ∃ n : Nat, n < 9 ∧ (IntKind.i64.wrap (Int.tmod x 9 + 9)).tmod 9 = n := by
  have h1 : -9 < Int.tmod x 9 := Int.lt_tmod_of_pos x (by omega)
  have h2 : Int.tmod x 9 < 9 := Int.tmod_lt_of_pos x (by omega)
  rw [w_i64 (by omega) (by omega), Int.tmod_eq_emod_of_nonneg (by omega)]
  exact ⟨((Int.tmod x 9 + 9) % 9).toNat, by omega, by omega⟩
theorem mod4 (n : Nat) (h : n < 9) : ∃ k : Nat, k < 4 ∧ ((n : Int)).tmod 4 = k := by
  rw [Int.tmod_eq_emod_of_nonneg (by omega)]
  exact ⟨n % 4, by omega, by omega⟩
theorem m_true_true (x y : Int) (l : Bool) : callω L T 3 0 [.int .i64 x, .int .i64 y, .bool l, .bool true, .bool true] [none, none, none, none, none] = some (.bool true, [none, none, none, none, none]) := by
  rw [call_go (show T 3 = some (.code a3) from rfl) rfl rfl]
  have ts := fun tag => t_law26_state tag l true true
  obtain ⟨n, hn, en⟩ := mod9 x
  obtain ⟨m, hm, em⟩ := mod9 y
  obtain ⟨k, hk, ek⟩ := mod4 n hn
  have b1 := fun tag => t_keys_Bytes tag false l true true 100 false (321 + n)
  have b2 := fun tag => t_keys_Bytes tag false l true true 100 false (321 + m)
  have b3 := fun tag => t_keys_Bytes tag false l true true 100 false (416 + k)
  have b4 := fun tag => t_keys_Bytes tag false l true true 100 false 421
  have b5 := fun tag => t_keys_Bytes tag false l true true 100 false 31
  have b6 := fun tag => t_keys_Bytes tag false l true true 100 false (-5)
  have sm := fun tag => t_SameBytes tag [19, 65 + (n : Int)] [19, 65 + (m : Int)] (by simp)
  rw [show keyL l true true (321 + n) = [19, 65 + (n : Int)] from by unfold keyL; rw [if_neg (by omega), if_pos (by omega), show (321 + (n : Int) - 256) = 65 + n from by omega]] at b1
  rw [show keyL l true true (321 + m) = [19, 65 + (m : Int)] from by unfold keyL; rw [if_neg (by omega), if_pos (by omega), show (321 + (m : Int) - 256) = 65 + m from by omega]] at b2
  rw [show keyL l true true (416 + k) = arrowL true true k from by unfold keyL; rw [if_neg (by omega), if_neg (by omega), if_pos (by omega), show (416 + (k : Int) - 416) = k from by omega]] at b3
  rw [show keyL l true true 421 = if true then [27] else [] from by simp [keyL]] at b4
  rw [show keyL l true true 31 = [] from by simp [keyL]] at b5
  rw [show keyL l true true (-5) = [] from by simp [keyL]] at b6
  simp only [stV, startB, List.map_cons, List.map_nil, List.cons_append, List.nil_append, List.length_cons, List.length_nil, Nat.zero_add, Nat.reduceAdd] at ts b1 b2 b3 b4 b5 b6 sm
  have w1 : IntKind.i64.wrap (321 + (n : Int)) = 321 + n := w_i64 (by omega) (by omega)
  have w2 : IntKind.i64.wrap (321 + (m : Int)) = 321 + m := w_i64 (by omega) (by omega)
  have w3 : IntKind.i64.wrap (416 + (k : Int)) = 416 + k := w_i64 (by omega) (by omega)
  have w4 : IntKind.i64.wrap (65 + (n : Int)) = 65 + n := w_i64 (by omega) (by omega)
  have w5 : IntKind.u8.wrap (65 + (n : Int)) = 65 + n := w_u8 (by omega) (by omega)
  have d : decide ([19, 65 + (n : Int)] = [19, 65 + (m : Int)]) = decide ((n : Int) = m) := by
    apply decide_eq_decide.2
    simp only [List.cons.injEq, and_true, true_and]
    omega
  rw [d] at sm
  simp only [arrowL, if_true, if_false, Bool.false_eq_true, List.map_cons, List.map_nil, List.length_cons, List.length_nil, Nat.zero_add, Nat.reduceAdd] at b3 b4
  simp [-List.all_eq_true, a3, Try.f3, t_law26_first, ts, en, em, ek, b1, b2, b3, b4, b5, b6, sm, w1, w2, w3, w4, w5]
theorem m_true_false (x y : Int) (l : Bool) : callω L T 3 0 [.int .i64 x, .int .i64 y, .bool l, .bool true, .bool false] [none, none, none, none, none] = some (.bool true, [none, none, none, none, none]) := by
  rw [call_go (show T 3 = some (.code a3) from rfl) rfl rfl]
  have ts := fun tag => t_law26_state tag l true false
  obtain ⟨n, hn, en⟩ := mod9 x
  obtain ⟨m, hm, em⟩ := mod9 y
  obtain ⟨k, hk, ek⟩ := mod4 n hn
  have b1 := fun tag => t_keys_Bytes tag false l true false 100 false (321 + n)
  have b2 := fun tag => t_keys_Bytes tag false l true false 100 false (321 + m)
  have b3 := fun tag => t_keys_Bytes tag false l true false 100 false (416 + k)
  have b4 := fun tag => t_keys_Bytes tag false l true false 100 false 421
  have b5 := fun tag => t_keys_Bytes tag false l true false 100 false 31
  have b6 := fun tag => t_keys_Bytes tag false l true false 100 false (-5)
  have sm := fun tag => t_SameBytes tag [19, 65 + (n : Int)] [19, 65 + (m : Int)] (by simp)
  rw [show keyL l true false (321 + n) = [19, 65 + (n : Int)] from by unfold keyL; rw [if_neg (by omega), if_pos (by omega), show (321 + (n : Int) - 256) = 65 + n from by omega]] at b1
  rw [show keyL l true false (321 + m) = [19, 65 + (m : Int)] from by unfold keyL; rw [if_neg (by omega), if_pos (by omega), show (321 + (m : Int) - 256) = 65 + m from by omega]] at b2
  rw [show keyL l true false (416 + k) = arrowL true false k from by unfold keyL; rw [if_neg (by omega), if_neg (by omega), if_pos (by omega), show (416 + (k : Int) - 416) = k from by omega]] at b3
  rw [show keyL l true false 421 = if true then [27] else [] from by simp [keyL]] at b4
  rw [show keyL l true false 31 = [] from by simp [keyL]] at b5
  rw [show keyL l true false (-5) = [] from by simp [keyL]] at b6
  simp only [stV, startB, List.map_cons, List.map_nil, List.cons_append, List.nil_append, List.length_cons, List.length_nil, Nat.zero_add, Nat.reduceAdd] at ts b1 b2 b3 b4 b5 b6 sm
  have w1 : IntKind.i64.wrap (321 + (n : Int)) = 321 + n := w_i64 (by omega) (by omega)
  have w2 : IntKind.i64.wrap (321 + (m : Int)) = 321 + m := w_i64 (by omega) (by omega)
  have w3 : IntKind.i64.wrap (416 + (k : Int)) = 416 + k := w_i64 (by omega) (by omega)
  have w4 : IntKind.i64.wrap (65 + (n : Int)) = 65 + n := w_i64 (by omega) (by omega)
  have w5 : IntKind.u8.wrap (65 + (n : Int)) = 65 + n := w_u8 (by omega) (by omega)
  have d : decide ([19, 65 + (n : Int)] = [19, 65 + (m : Int)]) = decide ((n : Int) = m) := by
    apply decide_eq_decide.2
    simp only [List.cons.injEq, and_true, true_and]
    omega
  rw [d] at sm
  simp only [arrowL, if_true, if_false, Bool.false_eq_true, List.map_cons, List.map_nil, List.length_cons, List.length_nil, Nat.zero_add, Nat.reduceAdd] at b3 b4
  simp [-List.all_eq_true, a3, Try.f3, t_law26_first, ts, en, em, ek, b1, b2, b3, b4, b5, b6, sm, w1, w2, w3, w4, w5]
theorem m_false_true (x y : Int) (l : Bool) : callω L T 3 0 [.int .i64 x, .int .i64 y, .bool l, .bool false, .bool true] [none, none, none, none, none] = some (.bool true, [none, none, none, none, none]) := by
  rw [call_go (show T 3 = some (.code a3) from rfl) rfl rfl]
  have ts := fun tag => t_law26_state tag l false true
  obtain ⟨n, hn, en⟩ := mod9 x
  obtain ⟨m, hm, em⟩ := mod9 y
  obtain ⟨k, hk, ek⟩ := mod4 n hn
  have b1 := fun tag => t_keys_Bytes tag false l false true 100 false (321 + n)
  have b2 := fun tag => t_keys_Bytes tag false l false true 100 false (321 + m)
  have b3 := fun tag => t_keys_Bytes tag false l false true 100 false (416 + k)
  have b4 := fun tag => t_keys_Bytes tag false l false true 100 false 421
  have b5 := fun tag => t_keys_Bytes tag false l false true 100 false 31
  have b6 := fun tag => t_keys_Bytes tag false l false true 100 false (-5)
  have sm := fun tag => t_SameBytes tag [19, 65 + (n : Int)] [19, 65 + (m : Int)] (by simp)
  rw [show keyL l false true (321 + n) = [19, 65 + (n : Int)] from by unfold keyL; rw [if_neg (by omega), if_pos (by omega), show (321 + (n : Int) - 256) = 65 + n from by omega]] at b1
  rw [show keyL l false true (321 + m) = [19, 65 + (m : Int)] from by unfold keyL; rw [if_neg (by omega), if_pos (by omega), show (321 + (m : Int) - 256) = 65 + m from by omega]] at b2
  rw [show keyL l false true (416 + k) = arrowL false true k from by unfold keyL; rw [if_neg (by omega), if_neg (by omega), if_pos (by omega), show (416 + (k : Int) - 416) = k from by omega]] at b3
  rw [show keyL l false true 421 = if false then [27] else [] from by simp [keyL]] at b4
  rw [show keyL l false true 31 = [] from by simp [keyL]] at b5
  rw [show keyL l false true (-5) = [] from by simp [keyL]] at b6
  simp only [stV, startB, List.map_cons, List.map_nil, List.cons_append, List.nil_append, List.length_cons, List.length_nil, Nat.zero_add, Nat.reduceAdd] at ts b1 b2 b3 b4 b5 b6 sm
  have w1 : IntKind.i64.wrap (321 + (n : Int)) = 321 + n := w_i64 (by omega) (by omega)
  have w2 : IntKind.i64.wrap (321 + (m : Int)) = 321 + m := w_i64 (by omega) (by omega)
  have w3 : IntKind.i64.wrap (416 + (k : Int)) = 416 + k := w_i64 (by omega) (by omega)
  have w4 : IntKind.i64.wrap (65 + (n : Int)) = 65 + n := w_i64 (by omega) (by omega)
  have w5 : IntKind.u8.wrap (65 + (n : Int)) = 65 + n := w_u8 (by omega) (by omega)
  have d : decide ([19, 65 + (n : Int)] = [19, 65 + (m : Int)]) = decide ((n : Int) = m) := by
    apply decide_eq_decide.2
    simp only [List.cons.injEq, and_true, true_and]
    omega
  rw [d] at sm
  simp only [arrowL, if_true, if_false, Bool.false_eq_true, List.map_cons, List.map_nil, List.length_cons, List.length_nil, Nat.zero_add, Nat.reduceAdd] at b3 b4
  simp [-List.all_eq_true, a3, Try.f3, t_law26_first, ts, en, em, ek, b1, b2, b3, b4, b5, b6, sm, w1, w2, w3, w4, w5]
theorem m_false_false (x y : Int) (l : Bool) : callω L T 3 0 [.int .i64 x, .int .i64 y, .bool l, .bool false, .bool false] [none, none, none, none, none] = some (.bool true, [none, none, none, none, none]) := by
  rw [call_go (show T 3 = some (.code a3) from rfl) rfl rfl]
  have ts := fun tag => t_law26_state tag l false false
  obtain ⟨n, hn, en⟩ := mod9 x
  obtain ⟨m, hm, em⟩ := mod9 y
  obtain ⟨k, hk, ek⟩ := mod4 n hn
  have b1 := fun tag => t_keys_Bytes tag false l false false 100 false (321 + n)
  have b2 := fun tag => t_keys_Bytes tag false l false false 100 false (321 + m)
  have b3 := fun tag => t_keys_Bytes tag false l false false 100 false (416 + k)
  have b4 := fun tag => t_keys_Bytes tag false l false false 100 false 421
  have b5 := fun tag => t_keys_Bytes tag false l false false 100 false 31
  have b6 := fun tag => t_keys_Bytes tag false l false false 100 false (-5)
  have sm := fun tag => t_SameBytes tag [19, 65 + (n : Int)] [19, 65 + (m : Int)] (by simp)
  rw [show keyL l false false (321 + n) = [19, 65 + (n : Int)] from by unfold keyL; rw [if_neg (by omega), if_pos (by omega), show (321 + (n : Int) - 256) = 65 + n from by omega]] at b1
  rw [show keyL l false false (321 + m) = [19, 65 + (m : Int)] from by unfold keyL; rw [if_neg (by omega), if_pos (by omega), show (321 + (m : Int) - 256) = 65 + m from by omega]] at b2
  rw [show keyL l false false (416 + k) = arrowL false false k from by unfold keyL; rw [if_neg (by omega), if_neg (by omega), if_pos (by omega), show (416 + (k : Int) - 416) = k from by omega]] at b3
  rw [show keyL l false false 421 = if false then [27] else [] from by simp [keyL]] at b4
  rw [show keyL l false false 31 = [] from by simp [keyL]] at b5
  rw [show keyL l false false (-5) = [] from by simp [keyL]] at b6
  simp only [stV, startB, List.map_cons, List.map_nil, List.cons_append, List.nil_append, List.length_cons, List.length_nil, Nat.zero_add, Nat.reduceAdd] at ts b1 b2 b3 b4 b5 b6 sm
  have w1 : IntKind.i64.wrap (321 + (n : Int)) = 321 + n := w_i64 (by omega) (by omega)
  have w2 : IntKind.i64.wrap (321 + (m : Int)) = 321 + m := w_i64 (by omega) (by omega)
  have w3 : IntKind.i64.wrap (416 + (k : Int)) = 416 + k := w_i64 (by omega) (by omega)
  have w4 : IntKind.i64.wrap (65 + (n : Int)) = 65 + n := w_i64 (by omega) (by omega)
  have w5 : IntKind.u8.wrap (65 + (n : Int)) = 65 + n := w_u8 (by omega) (by omega)
  have d : decide ([19, 65 + (n : Int)] = [19, 65 + (m : Int)]) = decide ((n : Int) = m) := by
    apply decide_eq_decide.2
    simp only [List.cons.injEq, and_true, true_and]
    omega
  rw [d] at sm
  simp only [arrowL, if_true, if_false, Bool.false_eq_true, List.map_cons, List.map_nil, List.length_cons, List.length_nil, Nat.zero_add, Nat.reduceAdd] at b3 b4
  simp [-List.all_eq_true, a3, Try.f3, t_law26_first, ts, en, em, ek, b1, b2, b3, b4, b5, b6, sm, w1, w2, w3, w4, w5]
theorem main (x y : Int) (l e c0 : Bool) : callω L T 3 0 [.int .i64 x, .int .i64 y, .bool l, .bool e, .bool c0] [none, none, none, none, none] = some (.bool true, [none, none, none, none, none]) := by
  cases e <;> cases c0
  · exact m_false_false x y l
  · exact m_false_true x y l
  · exact m_true_false x y l
  · exact m_true_true x y l
theorem law (cs : List AV) (h : ShpAll L 5 Try.f3.params.toList cs) : ∃ lent, callω L T 3 0 cs (List.replicate Try.f3.params.toList.length none) = some (.bool true, lent) := by
  rw [Try.params3] at h
  obtain ⟨x, _, rfl, hx, h0⟩ := shpAll_int rfl h
  obtain ⟨y, _, rfl, hy, h1⟩ := shpAll_int rfl h0
  obtain ⟨l, _, rfl, h2⟩ := shpAll_bool rfl h1
  obtain ⟨e, _, rfl, h3⟩ := shpAll_bool rfl h2
  obtain ⟨c0, _, rfl, h4⟩ := shpAll_bool rfl h3
  obtain rfl := shpAll_nil h4
  exact ⟨_, main x y l e c0⟩

open Go.ChangeShapes Go.WideShapes Go.ChangeAt Go.RowKit
theorem lifted (os : Os) (started : os.Started) (H : Type) (enc : TypeId × Value → H) :
    ReturnsInHanded {} Try.checked os 3 .any (Rows.keysModesSpec.pre6 enc Try.prog Try.f3 Rows.keysModesRow.domain false) (Rows.keysModesSpec.post enc Try.prog Try.f3 false true false false) := by
  refine law_lift (C := Try.checked) (n := 5) own started (by kernel_rfl) Try.func3 L_ok T_ok (show T 3 = some (.code a3) from rfl) laid (by kernel_rfl) rfl Try.underlying4 rfl ?_ law
    (ChangeSpec.witness6 (enc := enc) (C := Try.checked) false ⟨#[], #[.int .i64 0, .int .i64 0, .bool false, .bool false, .bool false], []⟩ 8 (by kernel_rfl) (by kernel_rfl) (by kernel_rfl) (by kernel_rfl))
  intro H ds hl
  rw [Try.params3] at hl
  match ds, hl with
  | [d1, d2, d3, d4, d5], _ => rfl

theorem over : Rows.keysModesRow.holds Try.pinned (OpenSpec.ofChange Rows.keysModesSpec) :=
  OpenClaim.holds_of_wide 3 Try.f3 rfl rfl rfl rfl rfl rfl rfl ⟨rfl, rfl, rfl, rfl, rfl⟩ rfl rfl rfl rfl rfl (by kernel_rfl) Try.func3 (by kernel_rfl)
    (of_decide_eq_true (by kernel_rfl)) (by unfold Func.isWrapper; first | (rw [if_pos (by decide +kernel)]; kernel_rfl) | (rw [if_neg (by decide +kernel)]; exact ⟨rfl, rfl⟩))
    (fun os started H enc _ => lifted os started H enc)

theorem proved : Rows.KeysModesSaid :=
  over
#print axioms proved
end Go.Proofs.Ytekpbmmhclafiaa.keysModes
