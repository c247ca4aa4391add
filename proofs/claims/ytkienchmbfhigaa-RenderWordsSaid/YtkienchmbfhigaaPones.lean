/- Functions of the seat, worked off from their code: chunk ones. Written by program (tools/mkp.py) from wip/fn. -/
import Derived.Test.YtkienchmbfhigaaSimT
import Derived.Test.YtkienchmbfhigaaSimFacts
import Derived.Test.YtkienchmbfhigaaPbits
set_option maxRecDepth 100000
set_option maxHeartbeats 4000000
set_option linter.unusedSimpArgs false
set_option linter.unusedVariables false
namespace Go.Proofs.Ytkienchmbfhigaa
open Go Go.Sim
attribute [local congr] ite_congr go_congr goOps_congr stepK_congr ret_congr headK_congr condK_congr guardK_congr
attribute [local simp] go_skip go_ret go_exit go_region go_seq go_cond go_block go_loop ret_nil ret_seq ret_seq_exit ret_seq_ret ret_blk ret_blk_ret ret_blk_exit ret_loop ret_loop_exit ret_loop_ret loopK_head goOps_nil goOps_cons goOps_guard stepK_some stepK_none stepK_ite guardK_true guardK_false guardK_bool condK_bool fin
attribute [local simp] runs denOp operand aget aput adel putD tidy trim getAll freezeAll freezeOne lentOut oneOrTup argEnv lentHeap ofConst ofScalar aCall lendAll lend lentApart lentFree readFree giveBack adopt aBin aUn L Ls mkA getRes asInt? bnd okRead okStore Ann.storeAt lendSize firstRegion List.find?_cons List.find?_nil
attribute [local simp] aInt_add aInt_sub aInt_mul aInt_quo aInt_rem aInt_and aInt_or aInt_xor aInt_andNot aInt_eql aInt_neq aInt_lss aInt_leq aInt_gtr aInt_geq aShift_shl aShift_shr
attribute [local simp] bAnd_u8 bOr_u8 bXor_u8 bAndNot_u8 bShl_u8 wrap_u8_range
attribute [local simp] aBuiltin slLen slCells aAppend newBlk blkOf putCells rdCells TI.isAgg aLoad aStore setR cutA aSlice aStrSlice fillA parts slElem fieldOf freezeSl freezeAgg AV.cells AV.solid AV.isRef repl
attribute [local simp] w_i64 w_u64 w_u8 all_plain_int all_plain_bool all_plain_app pl_bool pl_int pl_str pl_nilp pl_nsl pl_nilI pl_nilF pl_msl pl_ref pl_isl pl_fsl pl_agg take_map_len nat_not_neg int_beq int_bne Int.natCast_inj all_pc_bool all_pc_int all_take_bool all_drop_bool all_take_int all_drop_int
theorem upto_has {xs : List Int} {x : Int} {v w : Ans} : ∀ {m k : Nat}, k + m = xs.length → upto (fun k => xs[k]? == some x) (fun _ => v) w m k = if x ∈ xs.drop k then v else w
  | 0, k, h => by rw [List.drop_eq_nil_of_le (by omega)]; simp [upto]
  | m + 1, k, h => by
    unfold upto
    rw [upto_has (by omega), List.drop_eq_getElem_cons (show k < xs.length from by omega)]
    simp only [List.getElem?_eq_getElem (show k < xs.length from by omega)]
    by_cases hx : xs[k] = x
    · simp [hx]
    · have h2 : (x ∈ xs[k] :: xs.drop (k + 1)) ↔ (x ∈ xs.drop (k + 1)) := by rw [List.mem_cons]; exact ⟨fun h => h.resolve_left (Ne.symm hx), Or.inr⟩
      simp only [beq_iff_eq, Option.some.injEq, hx, if_false, h2]
def popF : Nat → Nat → Nat
  | 0, _ => 0
  | f + 1, n => n % 2 + popF f (n / 2)
theorem popF_le : ∀ (f n : Nat), popF f n ≤ f
  | 0, _ => Nat.le_refl _
  | f + 1, n => by
    have := popF_le f (n / 2)
    unfold popF; omega
theorem popF_zero : ∀ (f : Nat), popF f 0 = 0
  | 0 => rfl
  | f + 1 => by unfold popF; simp [popF_zero f]
theorem popF_byte {n : Nat} (h : n < 256) : popF 63 n = pop8 n := by
  have : allB (fun n => Nat.beq (popF 63 n) (pop8 n)) 256 = true := by decide +kernel
  exact Nat.eq_of_beq_eq_true (allB_get (p := fun n => Nat.beq (popF 63 n) (pop8 n)) this h)
theorem t_ones (tag : Nat) (n : Nat) (hn : n < 9223372036854775808) : callω L T 37 tag [.int .i64 n] [none] = some (.int .i64 (popF 63 n), [none]) := by
  rw [call_go (show T 37 = some (.code a37) from rfl) rfl rfl]
  simp [a37, Try.f37]
  refine Eq.trans (headK_ind (X := Nat × Nat × Nat) (fun x => { env := [(0, AV.int .i64 (x.2.1 : Int)), (3, .int .i64 (x.2.2 : Int))], heap := [], next := 1, tag := tag }) (fun x => some (.int .i64 ((x.2.2 + popF x.1 x.2.1 : Nat) : Int), [none])) (fun x => x.1) (fun x => x.2.1 < 2 ^ x.1 ∧ x.1 ≤ 63 ∧ x.2.2 + x.1 ≤ 63) ?_ (63, n, 0) (by simp; omega)) (by simp)
  rintro ⟨f, n, k⟩ ⟨h1, h2, h3⟩ ih
  simp only at h1 h2 h3 ih ⊢
  have e1 : bAnd .i64 (n : Int) 1 = (n : Int) % 2 := by
    have := Nat.pow_le_pow_right (n := 2) (by omega) h2
    rw [show (1 : Int) = ((1 : Nat) : Int) from rfl, and64 (by omega) (by omega), and_one_mod]; rfl
  have e2 : bShr .i64 (n : Int) 1 = (n : Int) / 2 := by
    rw [show (1 : Int) = ((1 : Nat) : Int) from rfl, shr_nat _ (by decide), shr_one]; rfl
  have e3 : IntKind.i64.wrap ((k : Int) + (n : Int) % 2) = (k : Int) + (n : Int) % 2 := wrap_i64 (by omega) (by omega)
  have hpos : (0 : Int) < (n : Int) ↔ 0 < n := by omega
  simp [e1, e2, e3, hpos]
  cases f with
  | zero => rw [if_neg (by omega)]; simp [popF]
  | succ f =>
    by_cases h0 : 0 < n
    · rw [if_pos h0]
      refine (ih (f, n / 2, k + n % 2) ⟨by simp only; omega, by simp only; omega, by simp only; omega⟩ (by simp)).trans ?_
      simp [popF, Int.add_assoc]
    · have : n = 0 := by omega
      subst this
      simp [popF, popF_zero]
theorem t_ref1_Odd (tag : Nat) (x : Int) (h0 : 0 ≤ x) (h : x < 256) : callω L T 26 tag [.int .u8 x] [none] = some (.bool (oddI x), [none]) := by
  obtain ⟨n, rfl⟩ : ∃ n : Nat, x = n := ⟨x.toNat, by omega⟩
  rw [call_go (show T 26 = some (.code a26) from rfl) rfl rfl]
  simp [a26, Try.f26, wrap_nat (show n < 9223372036854775808 from by omega), t_ones _ n (by omega), popF_byte (show n < 256 from by omega), oddI]

end Go.Proofs.Ytkienchmbfhigaa
