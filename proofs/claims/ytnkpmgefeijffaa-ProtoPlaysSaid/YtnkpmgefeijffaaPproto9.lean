/- Functions of the seat, worked off from their code: chunk proto9. Written by program (tools/mkp.py) from wip/fn. -/
import Derived.Test.YtnkpmgefeijffaaSimT
import Derived.Test.YtnkpmgefeijffaaSimY
import Derived.Test.YtnkpmgefeijffaaPask1
import Derived.Test.YtnkpmgefeijffaaPask2
import Derived.Test.YtnkpmgefeijffaaPask3
import Derived.Test.YtnkpmgefeijffaaPask4
import Derived.Test.YtnkpmgefeijffaaPask5
import Derived.Test.YtnkpmgefeijffaaPask6
import Derived.Test.YtnkpmgefeijffaaPask7
import Derived.Test.YtnkpmgefeijffaaPask8
import Derived.Test.YtnkpmgefeijffaaPask9
set_option maxRecDepth 100000
set_option maxHeartbeats 40000000
set_option linter.unusedSimpArgs false
set_option linter.unusedVariables false
namespace Go.Proofs.Ytnkpmgefeijffaa
open Go Go.Sim
attribute [local irreducible] chk brX getX strX setX takeX normX fillX lendX partsX opsX callK lentK giveX adoptX resX joinX headX loopX seqK blkK regK finX exOps ex eqT
attribute [local simp] setR_int setR_bool setR_zero setR_succ repl_int repl_bool List.getElem?_cons_zero List.getElem?_cons_succ List.getElem?_nil w_i64 w_u64 w_u8 bAnd_u8 bOr_u8 bXor_u8 bAndNot_u8 bShl_u8 wrap_u8_range all_plain_int all_plain_bool all_plain_app pl_bool pl_int pl_str pl_nilp pl_nsl pl_nilI pl_nilF take_map_len AV.cells TI.isAgg
attribute [local simp] Ev.flen Ev.rd Ev.g0 Ev.g1 Ev.g2 Ev.g3 Ev.g4 Ev.g5 Ev.g6 Ev.put Ev.pute Ev.s0 Ev.s1 Ev.s2 Ev.s3 Ev.s4 Ev.s5 Ev.s6 Ev.zero Ev.enc

attribute [local simp] PS.len rep_len
theorem t_ref20_Ask (tag : Nat) (s : PS) (e : Ev) : callω L T 15 tag [.agg s.enc, .agg e.enc] [none, none] = some (.tup [.agg (askF s e).1.enc, ansAV (askF s e).2], [none, none]) := by
  by_cases hk : e.kind = 10
  case neg =>
    rw [call_ex (show T 15 = some (.code a15) from rfl) rfl rfl]
    have ea : askF s e = (s, []) := if_neg hk
    (refine gox ?_)
    (refine finx ?_; try with_reducible rfl)
    rw [ea]; rfl
  by_cases n105 : e.b = 105
  · exact t_ask_105 tag s e hk n105
  by_cases n106 : e.b = 106
  · exact t_ask_106 tag s e hk n106
  by_cases n97 : e.b = 97
  · exact t_ask_97 tag s e hk n97
  by_cases n96 : e.b = 96
  · exact t_ask_96 tag s e hk n96
  by_cases n98 : e.b = 98
  · exact t_ask_98 tag s e hk n98
  by_cases n107 : e.b = 107
  · exact t_ask_107 tag s e hk n107
  by_cases n112 : e.b = 112
  · exact t_ask_112 tag s e hk n112
  by_cases n114 : e.b = 114
  · exact t_ask_114 tag s e hk n114
  by_cases n116 : e.b = 116
  · exact t_ask_116 tag s e hk n116
  by_cases n118 : e.b = 118
  · exact t_ask_118 tag s e hk n118
  by_cases n123 : e.b = 123
  · exact t_ask_123 tag s e hk n123
  by_cases n127 : e.b = 127
  · exact t_ask_127 tag s e hk n127
  exact t_ask_x tag s e hk n105 n106 n97 n96 n98 n107 n112 n114 n116 n118 n123 n127

end Go.Proofs.Ytnkpmgefeijffaa
