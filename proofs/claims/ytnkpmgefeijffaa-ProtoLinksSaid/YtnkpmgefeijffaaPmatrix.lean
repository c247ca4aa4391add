/- Functions of the seat, worked off from their code: chunk matrix. Written by program (tools/mkp.py) from wip/fn. -/
import Derived.Test.YtnkpmgefeijffaaSimT
import Derived.Test.YtnkpmgefeijffaaSimFacts

set_option maxRecDepth 100000
set_option maxHeartbeats 4000000
set_option linter.unusedSimpArgs false
set_option linter.unusedVariables false
namespace Go.Proofs.Ytnkpmgefeijffaa
open Go Go.Sim
attribute [local congr] ite_congr go_congr goOps_congr stepK_congr ret_congr headK_congr condK_congr guardK_congr
attribute [local simp] go_skip go_ret go_exit go_region go_seq go_cond go_block go_loop ret_nil ret_seq ret_seq_exit ret_seq_ret ret_blk ret_blk_ret ret_blk_exit ret_loop ret_loop_exit ret_loop_ret loopK_head goOps_nil goOps_cons goOps_guard stepK_some stepK_none stepK_ite guardK_true guardK_false guardK_bool condK_bool fin
attribute [local simp] runs denOp operand aget aput adel putD tidy trim getAll freezeAll freezeOne lentOut oneOrTup argEnv lentHeap ofConst ofScalar aCall lendAll lend lentApart lentFree readFree giveBack adopt aBin aUn L Ls mkA getRes asInt? bnd okRead okStore Ann.storeAt lendSize firstRegion List.find?_cons List.find?_nil
attribute [local simp] aInt_add aInt_sub aInt_mul aInt_quo aInt_rem aInt_and aInt_or aInt_xor aInt_andNot aInt_eql aInt_neq aInt_lss aInt_leq aInt_gtr aInt_geq aShift_shl aShift_shr
attribute [local simp] bAnd_u8 bOr_u8 bXor_u8 bAndNot_u8 bShl_u8 wrap_u8_range
attribute [local simp] aBuiltin slLen slCells aAppend newBlk blkOf putCells rdCells TI.isAgg aLoad aStore setR cutA aSlice aStrSlice fillA parts slElem fieldOf freezeSl freezeAgg AV.cells AV.solid AV.isRef repl
attribute [local simp] w_i64 w_u64 w_u8 all_plain_int all_plain_bool all_plain_app pl_bool pl_int pl_str pl_nilp pl_nsl pl_nilI pl_nilF pl_msl pl_ref pl_isl pl_fsl pl_agg take_map_len nat_not_neg int_beq int_bne Int.natCast_inj all_pc_bool all_pc_int all_take_bool all_drop_bool all_take_int all_drop_int
def in4 (x : Int) : Bool := decide (0 ≤ x ∧ x < 4)
theorem in4_nat {x : Int} (h : in4 x = true) : ∃ a : Nat, a < 4 ∧ x = a := by
  have := of_decide_eq_true h
  exact ⟨x.toNat, by omega, by omega⟩
/-- Does a module hear another one? -/
def hearsB (m : List Bool) (to' fr : Int) : Bool := in4 to' && in4 fr && m.getD (to'.toNat * 4 + fr.toNat) false
def maySet (to' fr : Int) : Bool := in4 to' && in4 fr && !decide (to' = fr) && !decide (fr = 0)
def setB (m : List Bool) (to' fr : Int) (on : Bool) : List Bool := if maySet to' fr then m.set (to'.toNat * 4 + fr.toNat) on else m
theorem setB_len (m : List Bool) (to' fr : Int) (on : Bool) : (setB m to' fr on).length = m.length := by unfold setB; split <;> simp
/-- Whom a module hears, as a byte. -/
def st4 (a b c d : Bool) : Int := 64 + a.toNat + 2 * b.toNat + 4 * c.toNat + 8 * d.toNat
def statusI (m : List Bool) (to' : Int) : Int := st4 (hearsB m to' 0) (hearsB m to' 1) (hearsB m to' 2) (hearsB m to' 3)
/-- Those that hear a module. -/
def to4 (a b c d : Bool) : List Int := (if a then [0] else []) ++ (if b then [1] else []) ++ (if c then [2] else []) ++ (if d then [3] else [])
def toL (m : List Bool) (fr : Int) : List Int := to4 (hearsB m 0 fr) (hearsB m 1 fr) (hearsB m 2 fr) (hearsB m 3 fr)
def startB : List Bool := [false, false, true, false, false, false, false, false, false, true, false, false, false, false, false, false]
theorem t_matrix_is (tag : Nat) (x : Int) : callω L T 35 tag [.int .i64 x] [none] = some (.bool (in4 x), [none]) := by
  rw [call_go (show T 35 = some (.code a35) from rfl) rfl rfl]
  by_cases h1 : 0 ≤ x
  · by_cases h2 : x < 4
    · simp [-List.all_eq_true, a35, Try.f35, h1, h2, in4]
    · simp [-List.all_eq_true, a35, Try.f35, h1, h2, in4]
  · simp [-List.all_eq_true, a35, Try.f35, h1, in4]
theorem t_matrix_Start (tag : Nat) : callω L T 22 tag [] [] = some (.agg (startB.map .bool), []) := by
  rw [call_go (show T 22 = some (.code a22) from rfl) rfl rfl]
  simp [-List.all_eq_true, a22, Try.f22, startB]
theorem t_matrix_Hears (tag : Nat) (m : List Bool) (hm : m.length = 16) (to' fr : Int) : callω L T 23 tag [.ref 0 (tag, 0) 0, .int .i64 to', .int .i64 fr] [some (m.map .bool), none, none] = some (.bool (hearsB m to' fr), [some (m.map .bool), none, none]) := by
  rw [call_go (show T 23 = some (.code a23) from rfl) rfl rfl]
  cases h1 : in4 to' with
  | false => simp [-List.all_eq_true, a23, Try.f23, t_matrix_is, h1, hearsB]
  | true =>
    cases h2 : in4 fr with
    | false => simp [-List.all_eq_true, a23, Try.f23, t_matrix_is, h1, h2, hearsB]
    | true =>
      obtain ⟨a, ha, rfl⟩ := in4_nat h1
      obtain ⟨b, hb, rfl⟩ := in4_nat h2
      have ha' : (a : Int) < 4 := by omega
      have hb' : (b : Int) < 4 := by omega
      have hi : a * 4 + b < m.length := by omega
      simp [-List.all_eq_true, a23, Try.f23, t_matrix_is, h1, h2, hearsB, ha, hb, ha', hb', hi]
theorem t_matrix_Set (tag : Nat) (m : List Bool) (hm : m.length = 16) (to' fr : Int) (on : Bool) : callω L T 41 tag [.ref 0 (tag, 0) 0, .int .i64 to', .int .i64 fr, .bool on] [some (m.map .bool), none, none, none] = some (.bool (maySet to' fr), [some ((setB m to' fr on).map .bool), none, none, none]) := by
  rw [call_go (show T 41 = some (.code a41) from rfl) rfl rfl]
  cases h1 : in4 to' with
  | false => simp [-List.all_eq_true, a41, Try.f41, t_matrix_is, h1, maySet, setB]
  | true =>
    cases h2 : in4 fr with
    | false => simp [-List.all_eq_true, a41, Try.f41, t_matrix_is, h1, h2, maySet, setB]
    | true =>
      by_cases h3 : to' = fr
      · simp [-List.all_eq_true, a41, Try.f41, t_matrix_is, h1, h2, h3, maySet, setB]
      · by_cases h4 : fr = 0
        · subst h4
          simp [-List.all_eq_true, a41, Try.f41, t_matrix_is, h1, h2, h3, maySet, setB]
        · have h5 : maySet to' fr = true := by simp [maySet, h1, h2, h3, h4]
          obtain ⟨a, ha, rfl⟩ := in4_nat h1
          obtain ⟨b, hb, rfl⟩ := in4_nat h2
          have ha' : (a : Int) < 4 := by omega
          have hb' : (b : Int) < 4 := by omega
          have hi : a * 4 + b < m.length := by omega
          have hi1 : a * 4 + b + 1 ≤ m.length := hi
          have hb0 : ¬ b = 0 := by omega
          have hmin : min (a * 4 + b) m.length + (m.length - (a * 4 + b + 1) + 1) = m.length := by omega
          simp [-List.all_eq_true, a41, Try.f41, t_matrix_is, h1, h2, h3, h4, h5, setB, ha, hb, hb0, ha', hb', hi, hi1, hmin]
          rw [set_split (by simpa using hi)]
theorem t_matrix_Status (tag : Nat) (m : List Bool) (hm : m.length = 16) (to' : Int) : callω L T 24 tag [.ref 0 (tag, 0) 0, .int .i64 to'] [some (m.map .bool), none] = some (.int .u8 (statusI m to'), [some (m.map .bool), none]) := by
  rw [call_go (show T 24 = some (.code a24) from rfl) rfl rfl]
  have h16 : 16 ≤ m.length := by omega
  have tk : (m.map AV.bool).take 16 = m.map .bool := by rw [← hm, take_map_len]
  have dr : (m.map AV.bool).drop 16 = [] := List.drop_eq_nil_of_le (by simp [hm])
  simp [-List.all_eq_true, a24, Try.f24, t_matrix_Hears _ m hm, headK, h16, tk, dr, hm]
  unfold statusI
  generalize hearsB m to' 0 = b0
  generalize hearsB m to' 1 = b1
  generalize hearsB m to' 2 = b2
  generalize hearsB m to' 3 = b3
  cases b0 <;> cases b1 <;> cases b2 <;> cases b3 <;> exact same_int (by decide)
theorem t_matrix_of (tag : Nat) (n at' : Int) (hn : 0 ≤ n ∧ n < 256) (ha : 0 ≤ at' ∧ at' < 256) : callω L T 45 tag [.int .u8 n, .int .i64 at'] [none, none] = some (.tup [.int .i64 (if in4 (n - at') then n - at' else 0), .bool (in4 (n - at'))], [none, none]) := by
  rw [call_go (show T 45 = some (.code a45) from rfl) rfl rfl]
  have e1 : IntKind.i64.wrap n = n := w_i64 (by omega) (by omega)
  have e2 : IntKind.i64.wrap (n - at') = n - at' := w_i64 (by omega) (by omega)
  cases h : in4 (n - at') with
  | false => simp [-List.all_eq_true, a45, Try.f45, t_matrix_is, e1, e2, h]
  | true => simp [-List.all_eq_true, a45, Try.f45, t_matrix_is, e1, e2, h]
theorem t_matrix_To (tag : Nat) (n : Int) (h0 : 0 ≤ n) (h1 : n < 256) : callω L T 43 tag [.int .u8 n] [none] = some (.tup [.int .i64 (if in4 (n - 0x58) then n - 0x58 else 0), .bool (in4 (n - 0x58))], [none]) := by
  rw [call_go (show T 43 = some (.code a43) from rfl) rfl rfl]
  simp [-List.all_eq_true, a43, Try.f43, t_matrix_of, h0, h1]
theorem t_matrix_From (tag : Nat) (n : Int) (h0 : 0 ≤ n) (h1 : n < 256) : callω L T 40 tag [.int .u8 n] [none] = some (.tup [.int .i64 (if in4 (n - 0x50) then n - 0x50 else 0), .bool (in4 (n - 0x50))], [none]) := by
  rw [call_go (show T 40 = some (.code a40) from rfl) rfl rfl]
  simp [-List.all_eq_true, a40, Try.f40, t_matrix_of, h0, h1]
def codeI (x : Int) (to' : Bool) : Int := if in4 x then (if to' then 0x58 else 0x50) + x else 0
theorem t_matrix_Code (tag : Nat) (x : Int) (to' : Bool) : callω L T 44 tag [.int .i64 x, .bool to'] [none, none] = some (.int .u8 (codeI x to'), [none, none]) := by
  rw [call_go (show T 44 = some (.code a44) from rfl) rfl rfl]
  cases h : in4 x with
  | false => simp [-List.all_eq_true, a44, Try.f44, t_matrix_is, h, codeI]
  | true =>
    obtain ⟨a, ha, rfl⟩ := in4_nat h
    have e1 : IntKind.i64.wrap ((a : Int) + 88) = a + 88 := w_i64 (by omega) (by omega)
    have e2 : IntKind.i64.wrap ((a : Int) + 80) = a + 80 := w_i64 (by omega) (by omega)
    have e3 : IntKind.i64.wrap (88 + (a : Int)) = 88 + a := w_i64 (by omega) (by omega)
    have e4 : IntKind.i64.wrap (80 + (a : Int)) = 80 + a := w_i64 (by omega) (by omega)
    have e5 : IntKind.u8.wrap (88 + (a : Int)) = 88 + a := w_u8 (by omega) (by omega)
    have e6 : IntKind.u8.wrap (80 + (a : Int)) = 80 + a := w_u8 (by omega) (by omega)
    cases to' <;> simp [-List.all_eq_true, a44, Try.f44, t_matrix_is, h, codeI, e1, e2, e3, e4, e5, e6]

end Go.Proofs.Ytnkpmgefeijffaa
