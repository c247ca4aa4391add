/- Functions of the seat, worked off from their code: chunk samec. Written by program (tools/mkp.py) from wip/fn. -/
import Derived.Test.YtkienchmbfhigaaSimT
import Derived.Test.YtkienchmbfhigaaSimY
import Derived.Test.YtkienchmbfhigaaPcells
set_option maxRecDepth 100000
set_option maxHeartbeats 40000000
set_option linter.unusedSimpArgs false
set_option linter.unusedVariables false
namespace Go.Proofs.Ytkienchmbfhigaa
open Go Go.Sim
attribute [local irreducible] chk brX getX strX setX takeX normX fillX lendX partsX opsX callK lentK lentR giveX adoptX resX joinX headX loopX seqK blkK regK finX exOps ex eqT
attribute [local simp] setR_int setR_bool setR_zero setR_succ repl_int repl_bool List.getElem?_cons_zero List.getElem?_cons_succ List.getElem?_nil w_i64 w_u64 w_u8 bAnd_u8 bOr_u8 bXor_u8 bAndNot_u8 bShl_u8 wrap_u8_range all_plain_int all_plain_bool all_plain_app pl_bool pl_int pl_str pl_nilp pl_nsl pl_nilI pl_nilF take_map_len AV.cells TI.isAgg
attribute [local simp] Cell.flen Cell.rd Cell.g0 Cell.g1 Cell.g2 Cell.g3 Cell.g4 Cell.g5 Cell.g6 Cell.g7 Cell.g8 Cell.g9 Cell.put Cell.pute Cell.s0 Cell.s1 Cell.s2 Cell.s3 Cell.s4 Cell.s5 Cell.s6 Cell.s7 Cell.s8 Cell.s9 Cell.zero Cell.enc

theorem t_SameCell (tag : Nat) (a b : Cell) : callω L T 14 tag [.agg a.enc, .agg b.enc] [none, none] = some (.bool (decide (a = b)), [none, none]) := by
  rw [call_ex (show T 14 = some (.code a14) from rfl) rfl rfl]
  (refine gox ?_)
  iterate 9 ((first | refine ops_split (by apply Eq.refl) (by apply Eq.refl) (by intro κ'; apply Eq.refl) (by intro κ'; apply Eq.refl) (fun h => ?_) (fun h => ?_) | refine br_decide (fun h => ?_) (fun h => ?_) | refine br_split (fun h => ?_) (fun h => ?_)); rotate_left; ((refine gox ?_); (refine finx ?_; try with_reducible rfl); refine ans_eq (congrArg AV.bool ?_) rfl; refine (decide_eq_false fun e => ?_).symm; subst e; simp at *); (refine gox ?_))
  (refine finx ?_; try with_reducible rfl)
  refine ans_eq (congrArg AV.bool ?_) rfl
  cases a; cases b
  simp only [decide_eq_true_eq, beq_iff_eq] at *
  simp [*]
theorem t_SameCell_self (tag : Nat) (a : Cell) : callω L T 14 tag [.agg a.enc, .agg a.enc] [none, none] = some (.bool true, [none, none]) := by
  have := t_SameCell tag a a
  rwa [decide_eq_true rfl] at this
end Go.Proofs.Ytkienchmbfhigaa
