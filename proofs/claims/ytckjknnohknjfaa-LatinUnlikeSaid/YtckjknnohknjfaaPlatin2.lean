/- Functions of the seat, worked off from their code: chunk latin2. Written by program (tools/mkp.py) from wip/fn. -/
import Derived.Test.YtckjknnohknjfaaSimT
import Derived.Test.YtckjknnohknjfaaSimX
import Derived.Test.YtckjknnohknjfaaPlatin
set_option maxRecDepth 100000
set_option maxHeartbeats 40000000
set_option linter.unusedSimpArgs false
set_option linter.unusedVariables false
namespace Go.Proofs.Ytckjknnohknjfaa
open Go Go.Sim
attribute [local irreducible] chk brX getX strX setX takeX normX fillX lendX partsX opsX callK lentK giveX adoptX resX joinX headX loopX seqK blkK regK finX exOps ex
attribute [local simp] setR_int setR_bool setR_zero setR_succ repl_int repl_bool List.getElem?_cons_zero List.getElem?_cons_succ List.getElem?_nil w_i64 w_u64 w_u8 bAnd_u8 bOr_u8 bXor_u8 bAndNot_u8 bShl_u8 wrap_u8_range all_plain_int all_plain_bool all_plain_app pl_bool pl_int pl_str pl_nilp pl_nsl pl_nilI pl_nilF take_map_len AV.cells TI.isAgg
theorem first_char : charI 0 35 = 163 := by decide
def valsL (o : Nat) : List Int := (List.range 96).map fun i => charI o ((i + 32 : Nat) : Int)
theorem vals_ok : ∀ o, o < 13 → (valsL o).Nodup := by decide +kernel
theorem low_ok : ∀ m, m < 32 → idxOf placesL (bAnd .u8 ((m : Nat) : Int) 127) = -1 ∧ plainI ((m : Nat) : Int) = 32 := by decide +kernel
theorem char_low (o : Int) {m : Int} (h0 : 0 ≤ m) (h1 : m < 32) : charI o m = 32 := by
  obtain ⟨n, rfl⟩ : ∃ n : Nat, m = n := ⟨m.toNat, by omega⟩
  obtain ⟨e1, e2⟩ := low_ok n (by omega)
  unfold charI
  simp only [e1]
  rw [if_pos (by decide), e2]
theorem char_opt (o c : Int) : charI o c = charI ((if o < 0 ∨ 13 ≤ o then 0 else o.toNat : Nat) : Int) c := by
  unfold charI
  by_cases h : o < 0 ∨ 13 ≤ o
  · rw [if_pos h]; rfl
  · rw [if_neg h]
    simp only [Int.toNat_natCast]
    congr 2
    rw [if_neg (by omega)]
theorem char_inj (o : Int) {a b : Int} (ha : 32 ≤ a) (ha' : a < 128) (hb : 32 ≤ b) (hb' : b < 128) (h : charI o a = charI o b) : a = b := by
  rw [char_opt o a, char_opt o b] at h
  generalize hn : (if o < 0 ∨ 13 ≤ o then 0 else o.toNat) = n at h
  have hn' : n < 13 := by subst hn; split <;> omega
  obtain ⟨i, rfl⟩ : ∃ i : Nat, a = ((i + 32 : Nat) : Int) := ⟨(a - 32).toNat, by omega⟩
  obtain ⟨j, rfl⟩ : ∃ j : Nat, b = ((j + 32 : Nat) : Int) := ⟨(b - 32).toNat, by omega⟩
  have hd := vals_ok n hn'
  have hi : i < (valsL n).length := by simp [valsL]; omega
  have hj : j < (valsL n).length := by simp [valsL]; omega
  have e : (valsL n)[i] = (valsL n)[j] := by simp only [valsL, List.getElem_map, List.getElem_range]; exact h
  have := (List.getElem_inj hd).1 e
  omega
theorem and127_lt (c : Int) : bAnd .u8 c 127 < 128 := by
  have h : ∀ x : BitVec 8, (x &&& 127#8).toNat < 128 := by decide +kernel
  show IntKind.u8.wrap ((BitVec.ofInt 8 c &&& BitVec.ofInt 8 127).toNat : Int) < 128
  have := h (BitVec.ofInt 8 c)
  have e : (BitVec.ofInt 8 127) = 127#8 := by decide
  rw [e, w_u8 (by omega) (by omega)]
  omega
theorem t_law4_first (tag : Nat) : callω L T 5 tag [] [] = some (.bool true, []) := by
  rw [call_ex (show T 5 = some (.code a5) from rfl) rfl rfl]
  have tc := t_Char (tag + 1) 0 35
  rw [first_char] at tc
  (repeat (first | ((first | apply Eq.trans (ops_cons ?hn ?h ?hp) | apply Eq.trans (ops_cons0 ?hn ?h)); (case hn => apply Eq.refl); (case h => (intro κ'; (try (first | refine Eq.trans (op_call (by apply Eq.refl) (by apply Eq.refl) (by apply Eq.refl)) ?_ | refine Eq.trans (op_build_s (by apply Eq.refl) (by apply Eq.refl)) ?_ | refine Eq.trans (op_build_a (by apply Eq.refl) (by apply Eq.refl) (by apply Eq.refl)) ?_ | refine Eq.trans (op_buildSlice (by apply Eq.refl) (by apply Eq.refl) (by apply Eq.refl) (by decide)) ?_ | refine Eq.trans (op_builtin (by apply Eq.refl) (by apply Eq.refl) (by apply Eq.refl)) ?_ | refine Eq.trans (op_alloc (by apply Eq.refl) (by (first | (simp (disch := first | omega | assumption) only [nfs, Nat.reduceAdd, Nat.reduceMul]; apply Eq.refl) | apply Eq.refl))) ?_)); (repeat (first | refine Eq.trans (opsl_cons (by intro κ'; apply Eq.refl)) ?_ | refine Eq.trans opsl_nil ?_ | refine Eq.trans (parts_cons (by intro κ'; apply Eq.refl)) ?_ | refine Eq.trans parts_nil ?_ | refine Eq.trans (fill_one (by apply Eq.refl) (by apply Eq.refl) (by intro κ'; apply Eq.refl) (by (first | apply Eq.refl | (simp [] <;> omega))) (by (first | (simp (disch := first | omega | assumption) only [nfs, Nat.reduceAdd, Nat.reduceMul]; apply Eq.refl) | apply Eq.refl))) ?_ | refine Eq.trans fill_nil ?_ | refine Eq.trans (lend_easy (by apply Eq.refl)) ?_ | refine Eq.trans (lend_ref (by apply Eq.refl) (by apply Eq.refl) (by (first | apply Eq.refl | decide | omega | assumption | (simp [] <;> omega))) (by (first | (simp (disch := first | omega | assumption) only [nfs, Nat.reduceAdd, Nat.reduceMul]; apply Eq.refl) | apply Eq.refl))) ?_ | refine Eq.trans (lend_msl (by apply Eq.refl) (by (first | apply Eq.refl | decide | omega | assumption | (simp [] <;> omega))) (by (first | (simp (disch := first | omega | assumption) only [nfs, Nat.reduceAdd, Nat.reduceMul]; apply Eq.refl) | apply Eq.refl))) ?_ | refine Eq.trans lend_nil ?_ | refine Eq.trans (norm_eq (by (first | (simp (disch := first | omega | assumption) only [nfs, Nat.reduceAdd, Nat.reduceMul]; apply Eq.refl) | apply Eq.refl))) ?_ | refine Eq.trans (call_k (by apply Eq.refl)) ?_ | refine Eq.trans give_none ?_ | refine Eq.trans (give_some (by apply Eq.refl) (by (first | apply Eq.refl | decide | omega | assumption | (simp [] <;> omega))) (by (first | (simp (disch := first | omega | assumption) only [nfs, Nat.reduceAdd, Nat.reduceMul]; apply Eq.refl) | apply Eq.refl)) (by intro κ'; apply Eq.refl)) ?_ | refine Eq.trans give_nil ?_ | refine Eq.trans adopt_no ?_ | refine Eq.trans adopt_fsl ?_ | refine Eq.trans (lent_k (by apply Eq.refl) (tc)) ?_ | refine Eq.trans (lent_k (by apply Eq.refl) (t_Options _)) ?_)); (repeat ((conv => lhs; whnf) <;> (first | apply Eq.refl | refine Eq.trans br_tt ?_ | refine Eq.trans br_ff ?_ | refine Eq.trans (br_t (by assumption)) ?_ | refine Eq.trans (br_f (by assumption)) ?_ | refine Eq.trans br_not ?_ | refine Eq.trans (br_yes (by (first | omega | assumption))) ?_ | refine Eq.trans (br_no (by (first | omega | assumption))) ?_ | refine Eq.trans (chk_ok (by (first | apply Eq.refl | decide | omega | assumption | (simp [] <;> omega)))) ?_ | refine Eq.trans (get_some (by (first | apply Eq.refl | (simp (disch := first | omega | assumption) [] <;> apply Eq.refl)))) ?_ | refine Eq.trans (set_eq (by (first | (simp (disch := first | omega | assumption) only [nfs, Nat.reduceAdd, Nat.reduceMul]; apply Eq.refl) | apply Eq.refl))) ?_ | refine Eq.trans (take_eq (by (first | (simp (disch := first | omega | assumption) only [nfs, Nat.reduceAdd, Nat.reduceMul]; apply Eq.refl) | apply Eq.refl))) ?_ | refine Eq.trans (join_eq (by (first | (simp (disch := first | omega | assumption) only [nfs, Nat.reduceAdd, Nat.reduceMul]; apply Eq.refl) | apply Eq.refl))) ?_ | refine Eq.trans (str_some (by (first | apply Eq.refl | (simp (disch := first | omega | assumption) [] <;> apply Eq.refl)))) ?_ | refine Eq.trans (norm_eq (by (first | (simp (disch := first | omega | assumption) only [nfs, Nat.reduceAdd, Nat.reduceMul]; apply Eq.refl) | apply Eq.refl))) ?_ | refine Eq.trans (nat_eq (by (first | (simp (disch := first | omega | assumption) only [Int.toNat_natCast, Int.reduceToNat, Int.toNat_zero]; apply Eq.refl) | apply Eq.refl))) ?_ | refine Eq.trans (byt_eq (by (first | apply Eq.refl | (simp (disch := first | omega | assumption) only [u8s_map]; apply Eq.refl) | (simp (disch := first | omega | assumption) [u8s_map]; done)))) ?_))))); (try (case hp => (intro κ'; apply Eq.refl)))) | refine Eq.trans (ops_run (by apply Eq.refl) (by apply Eq.refl)) ?_ | refine Eq.trans (ops_skip (by apply Eq.refl) (by apply Eq.refl) (by apply Eq.refl) (by intro κ'; apply Eq.refl)) ?_ | refine Eq.trans (ops_skipT (by apply Eq.refl) (by apply Eq.refl) (by apply Eq.refl) (by intro κ'; apply Eq.refl)) ?_ | refine Eq.trans (ops_nil (by intro κ'; apply Eq.refl)) ?_ | refine Eq.trans ex_seq ?_ | refine Eq.trans ex_region ?_ | refine Eq.trans ex_block ?_ | refine Eq.trans (ex_cond (by intro κ'; apply Eq.refl)) ?_ | refine Eq.trans br_tt ?_ | refine Eq.trans br_ff ?_ | refine Eq.trans k_seq ?_ | refine Eq.trans k_seq_ret ?_ | refine Eq.trans k_seq_exit ?_ | refine Eq.trans k_blk ?_ | refine Eq.trans k_blk_ret ?_ | refine Eq.trans k_blk_here ?_ | refine Eq.trans (k_blk_exit (by apply Eq.refl)) ?_ | refine Eq.trans ex_ret ?_ | refine Eq.trans ex_exit ?_ | refine Eq.trans ex_skip ?_ | refine Eq.trans ex_loop ?_ | refine Eq.trans (loop_head (by intro κ'; apply Eq.refl)) ?_ | refine Eq.trans (br_yes (by (first | omega | assumption))) ?_ | refine Eq.trans (br_no (by (first | omega | assumption))) ?_ | refine Eq.trans (br_t (by assumption)) ?_ | refine Eq.trans (br_f (by assumption)) ?_ | refine Eq.trans br_not ?_ | refine Eq.trans (ops_known (by apply Eq.refl) (by apply Eq.refl) (by (first | assumption | (apply decide_eq_true; first | assumption | omega) | (apply decide_eq_false; first | assumption | omega) | exact congrArg Bool.not (by assumption))) (by intro κ'; apply Eq.refl)) ?_))
  ((first | refine Eq.trans fin_ret ?_ | refine Eq.trans fin_normal ?_); (repeat ((conv => lhs; whnf) <;> (first | refine Eq.trans (chk_ok (by (first | apply Eq.refl | decide | omega | assumption | (simp [] <;> omega)))) ?_ | refine Eq.trans (get_some (by (first | apply Eq.refl | (simp (disch := first | omega | assumption) [] <;> apply Eq.refl)))) ?_ | refine Eq.trans (take_eq (by (first | (simp (disch := first | omega | assumption) only [nfs, Nat.reduceAdd, Nat.reduceMul]; apply Eq.refl) | apply Eq.refl))) ?_))); try (conv => lhs; whnf))
  try rfl

end Go.Proofs.Ytckjknnohknjfaa
