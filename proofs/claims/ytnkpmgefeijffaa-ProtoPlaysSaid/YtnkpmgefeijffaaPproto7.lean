/- Functions of the seat, worked off from their code: chunk proto7. Written by program (tools/mkp.py) from wip/fn. -/
import Derived.Test.YtnkpmgefeijffaaSimT
import Derived.Test.YtnkpmgefeijffaaSimY
import Derived.Test.YtnkpmgefeijffaaPproto6
import Derived.Test.YtnkpmgefeijffaaPmatrix2
set_option maxRecDepth 100000
set_option maxHeartbeats 40000000
set_option linter.unusedSimpArgs false
set_option linter.unusedVariables false
namespace Go.Proofs.Ytnkpmgefeijffaa
open Go Go.Sim
attribute [local irreducible] chk brX getX strX setX takeX normX fillX lendX partsX opsX callK lentK giveX adoptX resX joinX headX loopX seqK blkK regK finX exOps ex eqT
attribute [local simp] setR_int setR_bool setR_zero setR_succ repl_int repl_bool List.getElem?_cons_zero List.getElem?_cons_succ List.getElem?_nil w_i64 w_u64 w_u8 bAnd_u8 bOr_u8 bXor_u8 bAndNot_u8 bShl_u8 wrap_u8_range all_plain_int all_plain_bool all_plain_app pl_bool pl_int pl_str pl_nilp pl_nsl pl_nilI pl_nilF take_map_len AV.cells TI.isAgg
attribute [local simp] Ev.flen Ev.rd Ev.g0 Ev.g1 Ev.g2 Ev.g3 Ev.g4 Ev.g5 Ev.g6 Ev.put Ev.pute Ev.s0 Ev.s1 Ev.s2 Ev.s3 Ev.s4 Ev.s5 Ev.s6 Ev.zero Ev.enc

attribute [local simp] PS.len rep_len
theorem t_ref20_Start (tag : Nat) : callω L T 11 tag [] [] = some (.agg PS.start.enc, []) := by
  rw [call_ex (show T 11 = some (.code a11) from rfl) rfl rfl]
  (have c1 := fun x1 => t_ref20_StartMatrix x1; refine gox ?_; clear c1)
  (refine finx ?_; try with_reducible rfl)
  rfl
theorem t_ref20_Modes (tag : Nat) (s : PS) : callω L T 18 tag [.agg s.enc] [none] = some (.int .u8 (modesI s), [none]) := by
  rw [call_ex (show T 18 = some (.code a18) from rfl) rfl rfl]
  have e1 : bOr .u8 64 2 = 66 := by decide
  have e2 : bOr .u8 64 8 = 72 := by decide
  have e3 : bOr .u8 66 8 = 74 := by decide
  have e4 : bOr .u8 (bOr .u8 64 2) 8 = 74 := by decide
  cases hr : s.roll <;> cases hl : s.lower
  all_goals (refine gox ?_)
  all_goals (refine finx ?_; try with_reducible rfl)
  all_goals unfold modesI
  all_goals rw [hr, hl]
  all_goals try rfl
  all_goals first | (rw [e4]; rfl) | (rw [e1]; rfl) | (rw [e2]; rfl)
theorem t_ref20_Board (tag : Nat) (s : PS) : callω L T 20 tag [.agg s.enc] [none] = some (.int .u8 (boardI s), [none]) := by
  rw [call_ex (show T 20 = some (.code a20) from rfl) rfl rfl]
  have e1 : bOr .u8 64 1 = 65 := by decide
  have e2 : bOr .u8 64 4 = 68 := by decide
  have e4 : bOr .u8 (bOr .u8 64 1) 4 = 69 := by decide
  cases hr : s.ext <;> cases hl : s.c0
  all_goals (refine gox ?_)
  all_goals (refine finx ?_; try with_reducible rfl)
  all_goals unfold boardI
  all_goals rw [hr, hl]
  all_goals try rfl
  all_goals first | (rw [e4]; rfl) | (rw [e1]; rfl) | (rw [e2]; rfl)

end Go.Proofs.Ytnkpmgefeijffaa
