/- Functions of the seat, worked off from their code: chunk proto5. Written by program (tools/mkp.py) from wip/fn. -/
import Derived.Test.YtnkpmgefeijffaaSimT
import Derived.Test.YtnkpmgefeijffaaSimY
import Derived.Test.YtnkpmgefeijffaaPproto4
import Derived.Test.YtnkpmgefeijffaaPsame
set_option maxRecDepth 100000
set_option maxHeartbeats 40000000
set_option linter.unusedSimpArgs false
set_option linter.unusedVariables false
namespace Go.Proofs.Ytnkpmgefeijffaa
open Go Go.Sim
attribute [local irreducible] chk brX getX strX setX takeX normX fillX lendX partsX opsX callK lentK lentR giveX adoptX resX joinX headX loopX seqK blkK regK finX exOps ex eqT
attribute [local simp] setR_int setR_bool setR_zero setR_succ repl_int repl_bool List.getElem?_cons_zero List.getElem?_cons_succ List.getElem?_nil w_i64 w_u64 w_u8 bAnd_u8 bOr_u8 bXor_u8 bAndNot_u8 bShl_u8 wrap_u8_range all_plain_int all_plain_bool all_plain_app pl_bool pl_int pl_str pl_nilp pl_nsl pl_nilI pl_nilF take_map_len AV.cells TI.isAgg
attribute [local simp] Ev.flen Ev.rd Ev.g0 Ev.g1 Ev.g2 Ev.g3 Ev.g4 Ev.g5 Ev.g6 Ev.put Ev.pute Ev.s0 Ev.s1 Ev.s2 Ev.s3 Ev.s4 Ev.s5 Ev.s6 Ev.zero Ev.enc

attribute [local simp] PS.len rep_len
theorem t_law25_first (tag : Nat) : callω L T 9 tag [] [] = some (.bool true, []) := by
  rw [call_ex (show T 9 = some (.code a9) from rfl) rfl rfl]
  have h := t_proto_Ask (tag + 1) PS.start ⟨10, 1, 123, 0, 0, 0, 0⟩
  have e : (askF PS.start ⟨10, 1, 123, 0, 0, 0, 0⟩).2 = [1, 67, 117, 60, 4] := rfl
  rw [e] at h
  (have c1 := fun x1 => t_proto_Start x1; have c2 := h; refine gox ?_; clear c1 c2)
  (refine finx ?_; try with_reducible rfl)
  try rfl
theorem same_self (tag : Nat) (xs : List Int) (h : xs.length < 1000000) : callω L T 16 tag [.isl 1 xs.length (xs.map (.int .u8)), .isl 1 xs.length (xs.map (.int .u8))] [none, none] = some (.bool true, [none, none]) := by
  have := t_SameBytes tag xs xs h
  rwa [decide_eq_true rfl] at this

end Go.Proofs.Ytnkpmgefeijffaa
