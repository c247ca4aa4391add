/- Functions of the seat, worked off from their code: chunk attr6. Written by program (tools/mkp.py) from wip/fn. -/
import Derived.Test.YtkienchmbfhigaaSimT
import Derived.Test.YtkienchmbfhigaaSimY
import Derived.Test.YtkienchmbfhigaaPattr5
set_option maxRecDepth 100000
set_option maxHeartbeats 40000000
set_option linter.unusedSimpArgs false
set_option linter.unusedVariables false
namespace Go.Proofs.Ytkienchmbfhigaa
open Go Go.Sim
attribute [local irreducible] chk brX getX strX setX takeX normX fillX lendX partsX opsX callK lentK giveX adoptX resX joinX headX loopX seqK blkK regK finX exOps ex eqT
attribute [local simp] setR_int setR_bool setR_zero setR_succ repl_int repl_bool List.getElem?_cons_zero List.getElem?_cons_succ List.getElem?_nil w_i64 w_u64 w_u8 bAnd_u8 bOr_u8 bXor_u8 bAndNot_u8 bShl_u8 wrap_u8_range all_plain_int all_plain_bool all_plain_app pl_bool pl_int pl_str pl_nilp pl_nsl pl_nilI pl_nilF take_map_len AV.cells TI.isAgg
attribute [local simp] Cell.flen Cell.rd Cell.g0 Cell.g1 Cell.g2 Cell.g3 Cell.g4 Cell.g5 Cell.g6 Cell.g7 Cell.g8 Cell.g9 Cell.put Cell.pute Cell.s0 Cell.s1 Cell.s2 Cell.s3 Cell.s4 Cell.s5 Cell.s6 Cell.s7 Cell.s8 Cell.s9 Cell.zero Cell.enc At.flen At.rd At.g0 At.g1 At.g2 At.g3 At.g4 At.g5 At.g6 At.g7 At.g8 At.g9 At.g10 At.put At.pute At.s0 At.s1 At.s2 At.s3 At.s4 At.s5 At.s6 At.s7 At.s8 At.s9 At.s10 At.zero At.enc

theorem t_r1_Plain (tag : Nat) (c : Int) : callω L T 23 tag [.int .u8 c] [none] = some (.int .i64 (lplainI c), [none]) := by
  rw [call_ex (show T 23 = some (.code a23) from rfl) rfl rfl]
  obtain ⟨h0, h1⟩ := a127 c
  have e : lplainI c = if bAnd .u8 c 127 < 32 then 32 else if bAnd .u8 c 127 = 127 then 9632 else bAnd .u8 c 127 := rfl
  rw [e]
  have w : IntKind.i64.wrap (bAnd .u8 c 127) = bAnd .u8 c 127 := w_i64 (by omega) (by omega)
  by_cases x1 : bAnd .u8 c 127 < 32
  · rw [if_pos x1]
    (refine gox ?_)
    (refine finx ?_; try with_reducible rfl)
    try rfl
  rw [if_neg x1]
  by_cases x2 : bAnd .u8 c 127 = 127
  · rw [if_pos x2]
    (refine gox ?_)
    (refine finx ?_; try with_reducible rfl)
    try rfl
  rw [if_neg x2]
  (refine gox ?_)
  (refine finx ?_; try with_reducible rfl)
  rw [w]

end Go.Proofs.Ytkienchmbfhigaa
