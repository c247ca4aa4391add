/- Functions of the seat, worked off from their code: chunk matrix2. Written by program (tools/mkp.py) from wip/fn. -/
import Derived.Test.YtnkpmgefeijffaaSimT
import Derived.Test.YtnkpmgefeijffaaSimFacts
import Derived.Test.YtnkpmgefeijffaaPmatrix
import Derived.Test.YtnkpmgefeijffaaPones
set_option maxRecDepth 100000
set_option maxHeartbeats 4000000
set_option linter.unusedSimpArgs false
set_option linter.unusedVariables false
namespace Go.Proofs.Ytnkpmgefeijffaa
open Go Go.Sim
attribute [local congr] ite_congr go_congr goOps_congr stepK_congr ret_congr headK_congr condK_congr guardK_congr
attribute [local simp] go_skip go_ret go_exit go_region go_seq go_cond go_block go_loop ret_nil ret_seq ret_seq_exit ret_seq_ret ret_blk ret_blk_ret ret_blk_exit ret_loop ret_loop_exit ret_loop_ret loopK_head goOps_nil goOps_cons goOps_guard stepK_some stepK_none stepK_ite guardK_true guardK_false guardK_bool condK_bool fin
attribute [local simp] runs denOp operand aget aput adel putD tidy trim getAll freezeAll freezeOne lentOut oneOrTup argEnv lentHeap ofConst ofScalar aCall lendAll lend lentApart lentFree readFree giveBack adopt aBin aUn L Ls mkA getRes asInt? bnd okRead okStore Ann.storeAt lendSize firstRegion List.find?_cons List.find?_nil
attribute [local simp] aInt_add aInt_sub aInt_mul aInt_quo aInt_rem aInt_and aInt_or aInt_xor aInt_andNot aInt_eql aInt_neq aInt_lss aInt_leq aInt_gtr aInt_geq aShift_shl aShift_shr
attribute [local simp] bAnd_u8 bOr_u8 bXor_u8 bAndNot_u8 bShl_u8 wrap_u8_range
attribute [local simp] aBuiltin slLen slCells aAppend newBlk blkOf putCells rdCells TI.isAgg aLoad aStore setR cutA aSlice aStrSlice fillA parts slElem fieldOf freezeSl freezeAgg AV.cells AV.solid AV.isRef repl
attribute [local simp] w_i64 w_u64 w_u8 all_plain_int all_plain_bool all_plain_app pl_bool pl_int pl_str pl_nilp pl_nsl pl_nilI pl_nilF pl_msl pl_ref pl_isl pl_fsl pl_agg take_map_len nat_not_neg int_beq int_bne Int.natCast_inj all_pc_bool all_pc_int all_take_bool all_drop_bool all_take_int all_drop_int
theorem startB_len : startB.length = 16 := rfl
theorem start_status : statusI startB 0 = 68 := by decide
theorem start_hears : hearsB startB 2 1 = true := by decide
theorem t_Number (tag : Nat) (n b : Int) (hb : 0 < b) (hb' : b < 1000000) : callω L T 21 tag [.int .i64 n, .int .i64 b] [none, none] = some (.int .i64 (n % b), [none, none]) := by
  rw [call_go (show T 21 = some (.code a21) from rfl) rfl rfl]
  have h0 : b ≠ 0 := by omega
  have h1 : (n.tmod b < 0 → IntKind.i64.wrap (n.tmod b + b) = n % b) ∧ (¬ n.tmod b < 0 → n.tmod b = n % b) := by
    have q1 := Int.emod_nonneg n h0
    have q2 := Int.emod_lt_of_pos n hb
    have q3 : n.tmod b = if 0 ≤ n ∨ b ∣ n then n % b else n % b - b := by
      rw [Int.tmod_eq_emod]
      have : (b.natAbs : Int) = b := by omega
      split <;> simp [this]
    split at q3
    · exact ⟨fun h => by omega, fun _ => q3⟩
    · exact ⟨fun h => by rw [q3, w_i64 (by omega) (by omega)]; omega, fun h => by omega⟩
  by_cases hn : n.tmod b < 0
  · simp [a21, Try.f21, h0, hn, h1.1 hn]
  · have hn' : ¬ n % b < 0 := by rw [← h1.2 hn]; exact hn
    simp [a21, Try.f21, h0, hn', h1.2 hn]
theorem t_ref20_module (tag : Nat) (x : Int) : callω L T 42 tag [.int .i64 x] [none] = some (.bool (in4 x), [none]) := by
  rw [call_go (show T 42 = some (.code a42) from rfl) rfl rfl]
  by_cases h1 : 0 ≤ x
  · by_cases h2 : x < 4
    · have h3 : x ≤ 3 := by omega
      simp [a42, Try.f42, h1, h2, h3, in4]
    · have h3 : ¬ x ≤ 3 := by omega
      simp [a42, Try.f42, h1, h2, h3, in4]
  · simp [a42, Try.f42, h1, in4]
theorem t_ref20_Hears (tag : Nat) (m : List Bool) (hm : m.length = 16) (to' fr : Int) : callω L T 33 tag [.ref 0 (tag, 0) 0, .int .i64 to', .int .i64 fr] [some (m.map .bool), none, none] = some (.bool (hearsB m to' fr), [some (m.map .bool), none, none]) := by
  rw [call_go (show T 33 = some (.code a33) from rfl) rfl rfl]
  cases h1 : in4 to' with
  | false => simp [-List.all_eq_true, a33, Try.f33, t_ref20_module, h1, hearsB]
  | true =>
    cases h2 : in4 fr with
    | false => simp [-List.all_eq_true, a33, Try.f33, t_ref20_module, h1, h2, hearsB]
    | true =>
      obtain ⟨a, ha, rfl⟩ := in4_nat h1
      obtain ⟨b, hb, rfl⟩ := in4_nat h2
      have ha' : (a : Int) < 4 := by omega
      have hb' : (b : Int) < 4 := by omega
      have hi : a * 4 + b < m.length := by omega
      simp [-List.all_eq_true, a33, Try.f33, t_ref20_module, h1, h2, hearsB, ha, hb, ha', hb', hi]
theorem t_ref20_Set (tag : Nat) (m : List Bool) (hm : m.length = 16) (to' fr : Int) (on : Bool) : callω L T 32 tag [.ref 0 (tag, 0) 0, .int .i64 to', .int .i64 fr, .bool on] [some (m.map .bool), none, none, none] = some (.bool (maySet to' fr), [some ((setB m to' fr on).map .bool), none, none, none]) := by
  rw [call_go (show T 32 = some (.code a32) from rfl) rfl rfl]
  cases h1 : in4 to' with
  | false => simp [-List.all_eq_true, a32, Try.f32, t_ref20_module, h1, maySet, setB]
  | true =>
    cases h2 : in4 fr with
    | false => simp [-List.all_eq_true, a32, Try.f32, t_ref20_module, h1, h2, maySet, setB]
    | true =>
      by_cases h3 : to' = fr
      · simp [-List.all_eq_true, a32, Try.f32, t_ref20_module, h1, h2, h3, maySet, setB]
      · by_cases h4 : fr = 0
        · subst h4
          simp [-List.all_eq_true, a32, Try.f32, t_ref20_module, h1, h2, h3, maySet, setB]
        · have h5 : maySet to' fr = true := by simp [maySet, h1, h2, h3, h4]
          obtain ⟨a, ha, rfl⟩ := in4_nat h1
          obtain ⟨b, hb, rfl⟩ := in4_nat h2
          have ha' : (a : Int) < 4 := by omega
          have hb' : (b : Int) < 4 := by omega
          have hi : a * 4 + b < m.length := by omega
          have hi1 : a * 4 + b + 1 ≤ m.length := hi
          have hb0 : ¬ b = 0 := by omega
          have hmin : min (a * 4 + b) m.length + (m.length - (a * 4 + b + 1) + 1) = m.length := by omega
          simp [-List.all_eq_true, a32, Try.f32, t_ref20_module, h1, h2, h3, h4, h5, setB, ha, hb, hb0, ha', hb', hi, hi1, hmin]
          rw [set_split (by simpa using hi)]
theorem t_ref20_Status (tag : Nat) (m : List Bool) (hm : m.length = 16) (to' : Int) : callω L T 31 tag [.ref 0 (tag, 0) 0, .int .i64 to'] [some (m.map .bool), none] = some (.int .u8 (statusI m to'), [some (m.map .bool), none]) := by
  rw [call_go (show T 31 = some (.code a31) from rfl) rfl rfl]
  have h16 : 16 ≤ m.length := by omega
  have tk : (m.map AV.bool).take 16 = m.map .bool := by rw [← hm, take_map_len]
  have dr : (m.map AV.bool).drop 16 = [] := List.drop_eq_nil_of_le (by simp [hm])
  simp [-List.all_eq_true, a31, Try.f31, t_ref20_Hears _ m hm, headK, h16, tk, dr, hm]
  unfold statusI
  generalize hearsB m to' 0 = b0
  generalize hearsB m to' 1 = b1
  generalize hearsB m to' 2 = b2
  generalize hearsB m to' 3 = b3
  cases b0 <;> cases b1 <;> cases b2 <;> cases b3 <;> exact same_int (by decide)
theorem t_ref20_StartMatrix (tag : Nat) : callω L T 25 tag [] [] = some (.agg (startB.map .bool), []) := by
  rw [call_go (show T 25 = some (.code a25) from rfl) rfl rfl]
  simp [a25, Try.f25, startB]
theorem t_ref20_ToCode (tag : Nat) (n : Int) (h0 : 0 ≤ n) (h1 : n < 256) : callω L T 29 tag [.int .u8 n] [none] = some (.tup [.int .i64 (if in4 (n - 0x58) then n - 0x58 else 0), .bool (in4 (n - 0x58))], [none]) := by
  rw [call_go (show T 29 = some (.code a29) from rfl) rfl rfl]
  have e1 : IntKind.i64.wrap n = n := w_i64 (by omega) (by omega)
  have e2 : IntKind.i64.wrap (n - 88) = n - 88 := w_i64 (by omega) (by omega)
  by_cases h2 : n < 88
  · have h : in4 (n - 88) = false := by simp [in4]; omega
    simp [-List.all_eq_true, a29, Try.f29, e1, e2, h, h2]
  · by_cases h3 : 91 < n
    · have h : in4 (n - 88) = false := by simp [in4]; omega
      simp [-List.all_eq_true, a29, Try.f29, e1, e2, h, h2, h3]
    · have h : in4 (n - 88) = true := by simp [in4]; omega
      simp [-List.all_eq_true, a29, Try.f29, e1, e2, h, h2, h3]
theorem t_ref20_FromCode (tag : Nat) (n : Int) (h0 : 0 ≤ n) (h1 : n < 256) : callω L T 30 tag [.int .u8 n] [none] = some (.tup [.int .i64 (if in4 (n - 0x50) then n - 0x50 else 0), .bool (in4 (n - 0x50))], [none]) := by
  rw [call_go (show T 30 = some (.code a30) from rfl) rfl rfl]
  have e1 : IntKind.i64.wrap n = n := w_i64 (by omega) (by omega)
  have e2 : IntKind.i64.wrap (n - 80) = n - 80 := w_i64 (by omega) (by omega)
  by_cases h2 : n < 80
  · have h : in4 (n - 80) = false := by simp [in4]; omega
    simp [-List.all_eq_true, a30, Try.f30, e1, e2, h, h2]
  · by_cases h3 : 83 < n
    · have h : in4 (n - 80) = false := by simp [in4]; omega
      simp [-List.all_eq_true, a30, Try.f30, e1, e2, h, h2, h3]
    · have h : in4 (n - 80) = true := by simp [in4]; omega
      simp [-List.all_eq_true, a30, Try.f30, e1, e2, h, h2, h3]
end Go.Proofs.Ytnkpmgefeijffaa
