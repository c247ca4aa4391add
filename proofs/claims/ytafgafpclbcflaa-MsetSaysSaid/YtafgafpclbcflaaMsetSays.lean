/- MsetSays: what any byte of any set is, parted or not, any mark and letter together, are what the chapter says. No condition. -/
import Derived.Test.YtafgafpclbcflaaRows
import Derived.Test.YtafgafpclbcflaaSimT
import Derived.Test.YtafgafpclbcflaaSimX
import Derived.Test.YtafgafpclbcflaaPmset2
set_option maxRecDepth 100000
set_option maxHeartbeats 4000000
set_option linter.unusedSimpArgs false
set_option linter.unusedVariables false
namespace Go.Proofs.Ytafgafpclbcflaa.msetSays
open Go Go.Sim
attribute [local irreducible] chk brX getX strX setX takeX normX fillX lendX partsX opsX callK lentK giveX adoptX resX joinX headX loopX seqK blkK regK finX exOps ex
attribute [local simp] setR_int setR_bool setR_zero setR_succ repl_int repl_bool List.getElem?_cons_zero List.getElem?_cons_succ List.getElem?_nil w_i64 w_u64 w_u8 bAnd_u8 bOr_u8 bXor_u8 bAndNot_u8 bShl_u8 wrap_u8_range all_plain_int all_plain_bool all_plain_app pl_bool pl_int pl_str pl_nilp pl_nsl pl_nilI pl_nilF take_map_len AV.cells TI.isAgg

attribute [local simp] Pr.flen Pr.rd Pr.g0 Pr.g1 Pr.put Pr.pute Pr.s0 Pr.s1 Pr.zero Pr.enc Pq.flen Pq.rd Pq.g0 Pq.g1 Pq.put Pq.pute Pq.s0 Pq.s1 Pq.zero Pq.enc
theorem main (set c : Int) (parted : Bool) (m d : Int) (h0 : 0 ≤ c) (h1 : c < 256) (g0 : 0 ≤ m) (g1 : m < 256) (k0 : 0 ≤ d) (k1 : d < 256) : callω L T 3 0 [.int .i64 set, .int .u8 c, .bool parted, .int .u8 m, .int .u8 d] [none, none, none, none, none] = some (.bool true, [none, none, none, none, none]) := by
  rw [call_ex (show T 3 = some (.code a3) from rfl) rfl rfl]
  have b1 : ((specI c).2 == (specI c).2) = true := by cases (specI c).2 <;> rfl
  have b2 : ((accI c).2 == (accI c).2) = true := by cases (accI c).2 <;> rfl
  (repeat (first | ((first | apply Eq.trans (ops_cons ?hn ?h ?hp) | apply Eq.trans (ops_cons0 ?hn ?h)); (case hn => apply Eq.refl); (case h => (intro κ'; (try (first | refine Eq.trans (op_call (by apply Eq.refl) (by apply Eq.refl) (by apply Eq.refl)) ?_ | refine Eq.trans (op_build_s (by apply Eq.refl) (by apply Eq.refl)) ?_ | refine Eq.trans (op_build_a (by apply Eq.refl) (by apply Eq.refl) (by apply Eq.refl)) ?_ | refine Eq.trans (op_buildSlice (by apply Eq.refl) (by apply Eq.refl) (by apply Eq.refl) (by decide)) ?_ | refine Eq.trans (op_builtin (by apply Eq.refl) (by apply Eq.refl) (by apply Eq.refl)) ?_ | refine Eq.trans (op_alloc (by apply Eq.refl) (by (first | (simp (disch := first | omega | assumption) only [nfs, Nat.reduceAdd, Nat.reduceMul]; apply Eq.refl) | apply Eq.refl))) ?_)); (repeat (first | refine Eq.trans (opsl_cons (by intro κ'; apply Eq.refl)) ?_ | refine Eq.trans opsl_nil ?_ | refine Eq.trans (parts_cons (by intro κ'; apply Eq.refl)) ?_ | refine Eq.trans parts_nil ?_ | refine Eq.trans (fill_one (by apply Eq.refl) (by apply Eq.refl) (by intro κ'; apply Eq.refl) (by (first | apply Eq.refl | (simp [] <;> omega))) (by (first | (simp (disch := first | omega | assumption) only [nfs, Nat.reduceAdd, Nat.reduceMul]; apply Eq.refl) | apply Eq.refl))) ?_ | refine Eq.trans fill_nil ?_ | refine Eq.trans (lend_easy (by apply Eq.refl)) ?_ | refine Eq.trans (lend_ref (by apply Eq.refl) (by apply Eq.refl) (by (first | apply Eq.refl | decide | omega | assumption | (simp [] <;> omega))) (by (first | (simp (disch := first | omega | assumption) only [nfs, Nat.reduceAdd, Nat.reduceMul]; apply Eq.refl) | apply Eq.refl))) ?_ | refine Eq.trans (lend_msl (by apply Eq.refl) (by (first | apply Eq.refl | decide | omega | assumption | (simp [] <;> omega))) (by (first | (simp (disch := first | omega | assumption) only [nfs, Nat.reduceAdd, Nat.reduceMul]; apply Eq.refl) | apply Eq.refl))) ?_ | refine Eq.trans lend_nil ?_ | refine Eq.trans (norm_eq (by (first | (simp (disch := first | omega | assumption) only [nfs, Nat.reduceAdd, Nat.reduceMul]; apply Eq.refl) | apply Eq.refl))) ?_ | refine Eq.trans (call_k (by apply Eq.refl)) ?_ | refine Eq.trans give_none ?_ | refine Eq.trans (give_some (by apply Eq.refl) (by (first | apply Eq.refl | decide | omega | assumption | (simp [] <;> omega))) (by (first | (simp (disch := first | omega | assumption) only [nfs, Nat.reduceAdd, Nat.reduceMul]; apply Eq.refl) | apply Eq.refl)) (by intro κ'; apply Eq.refl)) ?_ | refine Eq.trans give_nil ?_ | refine Eq.trans adopt_no ?_ | refine Eq.trans (lent_k (by apply Eq.refl) (t_law20_first _)) ?_ | refine Eq.trans (lent_k (by apply Eq.refl) (t_mset_Special _ _ h0 h1)) ?_ | refine Eq.trans (lent_k (by apply Eq.refl) (t_ref20_Special _ _ h0 h1)) ?_ | refine Eq.trans (lent_k (by apply Eq.refl) (t_mset_Accent _ _ h0 h1)) ?_ | refine Eq.trans (lent_k (by apply Eq.refl) (t_ref20_Accent _ _ h0 h1)) ?_ | refine Eq.trans (lent_k (by apply Eq.refl) (t_mset_Char _ _ _ _ h0 h1)) ?_ | refine Eq.trans (lent_k (by apply Eq.refl) (t_ref20_Char _ _ _ _ h0 h1)) ?_ | refine Eq.trans (lent_k (by apply Eq.refl) (t_mset_Join _ _ _ g0 g1 k0 k1)) ?_ | refine Eq.trans (lent_k (by apply Eq.refl) (t_ref20_Join _ _ _ g0 g1 k0 k1)) ?_)); (repeat ((conv => lhs; whnf) <;> (first | apply Eq.refl | refine Eq.trans br_tt ?_ | refine Eq.trans br_ff ?_ | refine Eq.trans (br_t (by assumption)) ?_ | refine Eq.trans (br_f (by assumption)) ?_ | refine Eq.trans (br_yes (by (first | omega | assumption))) ?_ | refine Eq.trans (br_no (by (first | omega | assumption))) ?_ | refine Eq.trans (chk_ok (by (first | apply Eq.refl | decide | omega | assumption | (simp [] <;> omega)))) ?_ | refine Eq.trans (get_some (by (first | apply Eq.refl | (simp (disch := first | omega | assumption) [] <;> apply Eq.refl)))) ?_ | refine Eq.trans (set_eq (by (first | (simp (disch := first | omega | assumption) only [nfs, Nat.reduceAdd, Nat.reduceMul]; apply Eq.refl) | apply Eq.refl))) ?_ | refine Eq.trans (take_eq (by (first | (simp (disch := first | omega | assumption) only [nfs, Nat.reduceAdd, Nat.reduceMul]; apply Eq.refl) | apply Eq.refl))) ?_ | refine Eq.trans (join_eq (by (first | (simp (disch := first | omega | assumption) only [nfs, Nat.reduceAdd, Nat.reduceMul]; apply Eq.refl) | apply Eq.refl))) ?_ | refine Eq.trans (str_some (by (first | apply Eq.refl | (simp (disch := first | omega | assumption) [] <;> apply Eq.refl)))) ?_))))); (try (case hp => (intro κ'; apply Eq.refl)))) | refine Eq.trans (ops_run (by apply Eq.refl) (by apply Eq.refl)) ?_ | refine Eq.trans (ops_skip (by apply Eq.refl) (by apply Eq.refl) (by apply Eq.refl) (by intro κ'; apply Eq.refl)) ?_ | refine Eq.trans (ops_skipT (by apply Eq.refl) (by apply Eq.refl) (by apply Eq.refl) (by intro κ'; apply Eq.refl)) ?_ | refine Eq.trans (ops_nil (by intro κ'; apply Eq.refl)) ?_ | refine Eq.trans ex_seq ?_ | refine Eq.trans ex_region ?_ | refine Eq.trans ex_block ?_ | refine Eq.trans (ex_cond (by intro κ'; apply Eq.refl)) ?_ | refine Eq.trans br_tt ?_ | refine Eq.trans br_ff ?_ | refine Eq.trans k_seq ?_ | refine Eq.trans k_seq_ret ?_ | refine Eq.trans k_seq_exit ?_ | refine Eq.trans k_blk ?_ | refine Eq.trans k_blk_ret ?_ | refine Eq.trans k_blk_here ?_ | refine Eq.trans (k_blk_exit (by apply Eq.refl)) ?_ | refine Eq.trans ex_ret ?_ | refine Eq.trans ex_exit ?_ | refine Eq.trans ex_skip ?_ | refine Eq.trans ex_loop ?_ | refine Eq.trans (loop_head (by intro κ'; apply Eq.refl)) ?_ | refine Eq.trans (br_yes (by (first | omega | assumption))) ?_ | refine Eq.trans (br_no (by (first | omega | assumption))) ?_ | refine Eq.trans (br_t (by assumption)) ?_ | refine Eq.trans (br_f (by assumption)) ?_ | refine Eq.trans (ops_known (by apply Eq.refl) (by apply Eq.refl) (by (first | assumption | (apply decide_eq_true; first | assumption | omega) | (apply decide_eq_false; first | assumption | omega))) (by intro κ'; apply Eq.refl)) ?_))
  ((first | refine Eq.trans fin_ret ?_ | refine Eq.trans fin_normal ?_); (repeat ((conv => lhs; whnf) <;> (first | refine Eq.trans (chk_ok (by (first | apply Eq.refl | decide | omega | assumption | (simp [] <;> omega)))) ?_ | refine Eq.trans (get_some (by (first | apply Eq.refl | (simp (disch := first | omega | assumption) [] <;> apply Eq.refl)))) ?_ | refine Eq.trans (take_eq (by (first | (simp (disch := first | omega | assumption) only [nfs, Nat.reduceAdd, Nat.reduceMul]; apply Eq.refl) | apply Eq.refl))) ?_))); try (conv => lhs; whnf))
  simp
theorem law (cs : List AV) (h : ShpAll L 5 Try.f3.params.toList cs) : ∃ lent, callω L T 3 0 cs (List.replicate Try.f3.params.toList.length none) = some (.bool true, lent) := by
  rw [Try.params3] at h
  obtain ⟨set, _, rfl, _, h⟩ := shpAll_int rfl h
  obtain ⟨c, _, rfl, hc, h2⟩ := shpAll_int rfl h
  obtain ⟨p, _, rfl, h3⟩ := shpAll_bool rfl h2
  obtain ⟨m, _, rfl, hm, h4⟩ := shpAll_int rfl h3
  obtain ⟨d, _, rfl, hd, h5⟩ := shpAll_int rfl h4
  obtain rfl := shpAll_nil h5
  obtain ⟨n, rfl, hn⟩ := u8_wf hc
  obtain ⟨n2, rfl, hn2⟩ := u8_wf hm
  obtain ⟨n3, rfl, hn3⟩ := u8_wf hd
  exact ⟨_, main set n p n2 n3 (by omega) (by omega) (by omega) (by omega) (by omega) (by omega)⟩

open Go.ChangeShapes Go.WideShapes Go.ChangeAt Go.RowKit
theorem lifted (os : Os) (started : os.Started) (H : Type) (enc : TypeId × Value → H) :
    ReturnsInHanded {} Try.checked os 3 .any (Rows.msetSaysSpec.pre6 enc Try.prog Try.f3 Rows.msetSaysRow.domain false) (Rows.msetSaysSpec.post enc Try.prog Try.f3 false true false false) := by
  refine law_lift (C := Try.checked) (n := 5) own started (by kernel_rfl) Try.func3 L_ok T_ok (show T 3 = some (.code a3) from rfl) laid (by kernel_rfl) rfl Try.underlying4 rfl ?_ law
    (ChangeSpec.witness6 (enc := enc) (C := Try.checked) false ⟨#[], #[.int .i64 0, .int .u8 0, .bool false, .int .u8 0, .int .u8 0], []⟩ 8 (by kernel_rfl) (by kernel_rfl) (by kernel_rfl) (by kernel_rfl))
  intro H ds hl
  rw [Try.params3] at hl
  match ds, hl with
  | [d1, d2, d3, d4, d5], _ => rfl

theorem over : Rows.msetSaysRow.holds Try.pinned (OpenSpec.ofChange Rows.msetSaysSpec) :=
  OpenClaim.holds_of_wide 3 Try.f3 rfl rfl rfl rfl rfl rfl rfl ⟨rfl, rfl, rfl, rfl, rfl⟩ rfl rfl rfl rfl rfl (by kernel_rfl) Try.func3 (by kernel_rfl)
    (of_decide_eq_true (by kernel_rfl)) (by unfold Func.isWrapper; first | (rw [if_pos (by decide +kernel)]; kernel_rfl) | (rw [if_neg (by decide +kernel)]; exact ⟨rfl, rfl⟩))
    (fun os started H enc _ => lifted os started H enc)

theorem proved : Rows.MsetSaysSaid :=
  over
#print axioms proved
end Go.Proofs.Ytafgafpclbcflaa.msetSays
