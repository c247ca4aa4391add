/- HamFar: two numbers' bytes differ in four bits or more, all are odd. No condition. -/
import Derived.Test.YtfnknlaaaiekpaaRows
import Derived.Test.YtfnknlaaaiekpaaSimT
import Derived.Test.YtfnknlaaaiekpaaSimFacts
import Derived.Test.YtfnknlaaaiekpaaPham
set_option maxRecDepth 100000
set_option maxHeartbeats 4000000
set_option linter.unusedSimpArgs false
set_option linter.unusedVariables false
namespace Go.Proofs.Ytfnknlaaaiekpaa.hamFar
open Go Go.Sim
attribute [local congr] ite_congr go_congr goOps_congr stepK_congr ret_congr headK_congr condK_congr guardK_congr
attribute [local simp] go_skip go_ret go_exit go_region go_seq go_cond go_block go_loop ret_nil ret_seq ret_seq_exit ret_seq_ret ret_blk ret_blk_ret ret_blk_exit ret_loop ret_loop_exit ret_loop_ret loopK_head goOps_nil goOps_cons goOps_guard stepK_some stepK_none stepK_ite guardK_true guardK_false guardK_bool condK_bool fin
attribute [local simp] runs denOp operand aget aput adel putD tidy trim getAll freezeAll freezeOne lentOut oneOrTup argEnv lentHeap ofConst ofScalar aCall lendAll lend lentApart lentFree readFree giveBack adopt aBin aUn L Ls mkA getRes asInt? bnd okRead okStore Ann.storeAt lendSize firstRegion List.find?_cons List.find?_nil
attribute [local simp] aInt_add aInt_sub aInt_mul aInt_quo aInt_rem aInt_and aInt_or aInt_xor aInt_andNot aInt_eql aInt_neq aInt_lss aInt_leq aInt_gtr aInt_geq aShift_shl aShift_shr
attribute [local simp] bAnd_u8 bOr_u8 bXor_u8 bAndNot_u8 bShl_u8 wrap_u8_range
attribute [local simp] aBuiltin slLen slCells aAppend newBlk blkOf putCells rdCells TI.isAgg aLoad aStore setR cutA aSlice aStrSlice fillA parts slElem fieldOf freezeSl freezeAgg AV.cells AV.solid AV.isRef repl
attribute [local simp] w_i64 w_u64 w_u8 all_plain_int all_plain_bool all_plain_app pl_bool pl_int pl_str pl_nilp pl_nsl pl_nilI pl_nilF pl_msl pl_ref pl_isl pl_fsl pl_agg take_map_len nat_not_neg int_beq int_bne Int.natCast_inj

def cntTo (z : Nat) : Nat → Nat
  | 0 => 0
  | k + 1 => cntTo z k + z / 2 ^ k % 2
theorem cntTo_le (z : Nat) : ∀ k, cntTo z k ≤ k
  | 0 => Nat.le_refl _
  | k + 1 => by
    have := cntTo_le z k
    unfold cntTo; omega
theorem facts (a b : Nat) (ha : a < 16) (hb : b < 16) : (cntTo (hamB a ^^^ hamB b) 8 = 0 ↔ a = b) ∧ (cntTo (hamB a ^^^ hamB b) 8 = 0 ∨ 4 ≤ cntTo (hamB a ^^^ hamB b) 8) ∧ oddI (hamB a : Nat) = true := by
  have h : allB (fun a => allB (fun b => decide ((cntTo (hamB a ^^^ hamB b) 8 = 0 ↔ a = b) ∧ (cntTo (hamB a ^^^ hamB b) 8 = 0 ∨ 4 ≤ cntTo (hamB a ^^^ hamB b) 8) ∧ oddI (hamB a : Nat) = true)) 16) 16 = true := by decide +kernel
  have h1 := allB_get (p := fun a => allB (fun b => decide ((cntTo (hamB a ^^^ hamB b) 8 = 0 ↔ a = b) ∧ (cntTo (hamB a ^^^ hamB b) 8 = 0 ∨ 4 ≤ cntTo (hamB a ^^^ hamB b) 8) ∧ oddI (hamB a : Nat) = true)) 16) h ha
  have h2 := allB_get (p := fun b => decide ((cntTo (hamB a ^^^ hamB b) 8 = 0 ↔ a = b) ∧ (cntTo (hamB a ^^^ hamB b) 8 = 0 ∨ 4 ≤ cntTo (hamB a ^^^ hamB b) 8) ∧ oddI (hamB a : Nat) = true)) h1 hb
  simpa using h2
theorem main (x y : Int) : callω L T 3 0 [.int .i64 x, .int .i64 y] [none, none] = some (.bool true, [none, none]) := by
  rw [call_go (show T 3 = some (.code a3) from rfl) rfl rfl]
  obtain ⟨a, ha, ea⟩ : ∃ r : Nat, r < 16 ∧ x % 16 = r := ⟨(x % 16).toNat, by omega, by omega⟩
  obtain ⟨b, hb, eb⟩ : ∃ r : Nat, r < 16 ∧ y % 16 = r := ⟨(y % 16).toNat, by omega, by omega⟩
  have pa : putI x = (hamB a : Nat) := by unfold putI; rw [ea]; rfl
  have pb : putI y = (hamB b : Nat) := by unfold putI; rw [eb]; rfl
  obtain ⟨f1, f2, f3⟩ := facts a b ha hb
  have la := hamB_lt a
  have lb := hamB_lt b
  have hz : hamB a ^^^ hamB b < 256 := Nat.xor_lt_two_pow (n := 8) la lb
  have ez : bXor .u8 (hamB a : Nat) (hamB b : Nat) = ((hamB a ^^^ hamB b : Nat) : Int) := xor8 la lb
  simp [a3, Try.f3, t_law2_first, t_ham_Put]
  refine headK_up (fun k => { env := [(0, .int .i64 x), (1, .int .i64 y), (5, .bool true), (6, .int .u8 (putI x)), (7, .int .u8 (putI y)), (8, .int .i64 (cntTo (hamB a ^^^ hamB b) k)), (9, .int .i64 k)], heap := [], next := 1, tag := 0 }) 8 _ ?_ ?_ 0 (by omega)
  · intro k hk
    rw [pa, pb]
    have e1 : bShr .u8 ((hamB a ^^^ hamB b : Nat) : Int) (k : Int) = (((hamB a ^^^ hamB b) >>> k : Nat) : Int) := shr_nat _ (by show k ≤ 8; omega)
    have e2 : (hamB a ^^^ hamB b) >>> k < 256 := by rw [Nat.shiftRight_eq_div_pow]; exact Nat.lt_of_le_of_lt (Nat.div_le_self _ _) hz
    have e3 : bAnd .u8 (((hamB a ^^^ hamB b) >>> k : Nat) : Int) 1 = (((hamB a ^^^ hamB b) / 2 ^ k % 2 : Nat) : Int) := by
      rw [show (1 : Int) = ((1 : Nat) : Int) from rfl, and8 e2 (by omega), and_one_mod, Nat.shiftRight_eq_div_pow]
    have e4 : (k : Int) < 8 := by omega
    have e5 : IntKind.u64.wrap (k : Int) = k := w_u64 (by omega) (by omega)
    have e6 : IntKind.i64.wrap (((hamB a ^^^ hamB b) / 2 ^ k % 2 : Nat) : Int) = (((hamB a ^^^ hamB b) / 2 ^ k % 2 : Nat) : Int) := w_i64 (by omega) (by omega)
    have e7 := cntTo_le (hamB a ^^^ hamB b) k
    have e8 : IntKind.i64.wrap ((cntTo (hamB a ^^^ hamB b) k : Int) + (((hamB a ^^^ hamB b) / 2 ^ k % 2 : Nat) : Int)) = (cntTo (hamB a ^^^ hamB b) k : Int) + (((hamB a ^^^ hamB b) / 2 ^ k % 2 : Nat) : Int) := w_i64 (by omega) (by omega)
    have e9 : IntKind.i64.wrap ((k : Int) + 1) = k + 1 := w_i64 (by omega) (by omega)
    generalize (hamB a ^^^ hamB b) = z at *
    simp only [cntTo]
    generalize z / 2 ^ k % 2 = d at *
    generalize z >>> k = w at *
    simp [ez, e1, e3, e4, e5, e6, e8, e9]
  · rw [pa, pb]
    generalize cntTo (hamB a ^^^ hamB b) 8 = n at *
    have m1 : bAnd .i64 x 15 = a := by rw [and_15]; exact ea
    have m2 : bAnd .i64 y 15 = b := by rw [and_15]; exact eb
    have la' : ((hamB a : Nat) : Int) < 256 := by omega
    by_cases hab : a = b
    · have hn := f1.2 hab
      subst hab hn
      simp [m1, m2, t_ref1_Odd, f3, la']
    · have hn : ¬ n = 0 := fun h => hab (f1.1 h)
      have hn4 : (4 : Int) ≤ n := by omega
      simp [m1, m2, t_ref1_Odd, f3, la', hab, hn, hn4]
theorem law (cs : List AV) (h : ShpAll L 5 Try.f3.params.toList cs) : ∃ lent, callω L T 3 0 cs (List.replicate Try.f3.params.toList.length none) = some (.bool true, lent) := by
  rw [Try.params3] at h
  obtain ⟨x, _, rfl, _, h⟩ := shpAll_int rfl h
  obtain ⟨y, _, rfl, _, h⟩ := shpAll_int rfl h
  obtain rfl := shpAll_nil h
  exact ⟨_, main x y⟩

open Go.ChangeShapes Go.WideShapes Go.ChangeAt Go.RowKit
theorem lifted (os : Os) (started : os.Started) (H : Type) (enc : TypeId × Value → H) :
    ReturnsInHanded {} Try.checked os 3 .any (Rows.hamFarSpec.pre6 enc Try.prog Try.f3 Rows.hamFarRow.domain false) (Rows.hamFarSpec.post enc Try.prog Try.f3 false true false false) := by
  refine law_lift (C := Try.checked) (n := 5) own started (by kernel_rfl) Try.func3 L_ok T_ok (show T 3 = some (.code a3) from rfl) laid (by kernel_rfl) rfl Try.underlying4 rfl ?_ law
    (ChangeSpec.witness6 (enc := enc) (C := Try.checked) false ⟨#[], #[.int .i64 0, .int .i64 0], []⟩ 8 (by kernel_rfl) (by kernel_rfl) (by kernel_rfl) (by kernel_rfl))
  intro H ds hl
  rw [Try.params3] at hl
  match ds, hl with
  | [d1, d2], _ => rfl

theorem over : Rows.hamFarRow.holds Try.pinned (OpenSpec.ofChange Rows.hamFarSpec) :=
  OpenClaim.holds_of_wide 3 Try.f3 rfl rfl rfl rfl rfl rfl rfl ⟨rfl, rfl, rfl, rfl, rfl⟩ rfl rfl rfl rfl rfl (by kernel_rfl) Try.func3 (by kernel_rfl)
    (of_decide_eq_true (by kernel_rfl)) (by unfold Func.isWrapper; first | (rw [if_pos (by decide +kernel)]; kernel_rfl) | (rw [if_neg (by decide +kernel)]; exact ⟨rfl, rfl⟩))
    (fun os started H enc _ => lifted os started H enc)

theorem proved : Rows.HamFarSaid :=
  over
#print axioms proved
end Go.Proofs.Ytfnknlaaaiekpaa.hamFar
