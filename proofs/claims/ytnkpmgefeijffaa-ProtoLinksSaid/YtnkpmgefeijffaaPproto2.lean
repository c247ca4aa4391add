/- Functions of the seat, worked off from their code: chunk proto2. Written by program (tools/mkp.py) from wip/fn. -/
import Derived.Test.YtnkpmgefeijffaaSimT
import Derived.Test.YtnkpmgefeijffaaSimY
import Derived.Test.YtnkpmgefeijffaaPproto
set_option maxRecDepth 100000
set_option maxHeartbeats 40000000
set_option linter.unusedSimpArgs false
set_option linter.unusedVariables false
namespace Go.Proofs.Ytnkpmgefeijffaa
open Go Go.Sim
attribute [local irreducible] chk brX getX strX setX takeX normX fillX lendX partsX opsX callK lentK lentR giveX adoptX resX joinX headX loopX seqK blkK regK finX exOps ex eqT
attribute [local simp] setR_int setR_bool setR_zero setR_succ repl_int repl_bool List.getElem?_cons_zero List.getElem?_cons_succ List.getElem?_nil w_i64 w_u64 w_u8 bAnd_u8 bOr_u8 bXor_u8 bAndNot_u8 bShl_u8 wrap_u8_range all_plain_int all_plain_bool all_plain_app pl_bool pl_int pl_str pl_nilp pl_nsl pl_nilI pl_nilF take_map_len AV.cells TI.isAgg
attribute [local simp] Ev.flen Ev.rd Ev.g0 Ev.g1 Ev.g2 Ev.g3 Ev.g4 Ev.g5 Ev.g6 Ev.put Ev.pute Ev.s0 Ev.s1 Ev.s2 Ev.s3 Ev.s4 Ev.s5 Ev.s6 Ev.zero Ev.enc

attribute [local simp] PS.len rep_len
theorem t_proto_second (tag : Nat) (s : PS) (b c : Int) : callω L T 27 tag [.agg s.enc, .int .i64 b, .int .i64 c] [none, none, none] = some (.tup [.agg (secondF s b c).1.enc, ansAV (secondF s b c).2], [none, none, none]) := by
  rw [call_ex (show T 27 = some (.code a27) from rfl) rfl rfl]
  by_cases h1 : b = 105 ∨ b = 106
  · by_cases c1 : c = 67
    · have es : secondF s b c = ({ s with roll := decide (b = 105) }, [27, 58, 115, modesI { s with roll := decide (b = 105) }]) := by unfold secondF; rw [if_pos h1, if_pos c1]
      rcases h1 with h1 | h1
      all_goals subst h1
      all_goals (have fA := @PS.enc.eq_1; have c1 := fun x1 => t_Modes x1 { s with roll := true }; have c2 := fun x1 => t_Modes x1 { s with roll := false }; have c3 := fun x1 x2 x3 => t_short x1 x2 x3; refine gox ?_; clear fA c1 c2 c3)
      all_goals (refine finx ?_; try with_reducible rfl)
      all_goals rw [es]
      all_goals rfl
    by_cases c2 : c = 69
    · have es : secondF s b c = ({ s with lower := decide (b = 105) }, [27, 58, 115, modesI { s with lower := decide (b = 105) }]) := by unfold secondF; rw [if_pos h1, if_neg c1, if_pos c2]
      rcases h1 with h1 | h1
      all_goals subst h1
      all_goals (have fA := @PS.enc.eq_1; have c1 := fun x1 => t_Modes x1 { s with lower := true }; have c2 := fun x1 => t_Modes x1 { s with lower := false }; have c3 := fun x1 x2 x3 => t_short x1 x2 x3; refine gox ?_; clear fA c1 c2 c3)
      all_goals (refine finx ?_; try with_reducible rfl)
      all_goals rw [es]
      all_goals rfl
    have es : secondF s b c = (s, []) := by unfold secondF; rw [if_pos h1, if_neg c1, if_neg c2]
    rcases h1 with h1 | h1
    all_goals subst h1
    all_goals (refine gox ?_)
    all_goals (refine finx ?_; try with_reducible rfl)
    all_goals rw [es]
    all_goals rfl
  by_cases h2 : b = 107
  · by_cases c1 : c < 64
    · have es : secondF s b c = (s, []) := by unfold secondF; rw [if_neg h1, if_pos h2, if_pos (Or.inl c1)]
      subst h2
      (refine gox ?_)
      (refine finx ?_; try with_reducible rfl)
      rw [es]; rfl
    by_cases c2 : 127 < c
    · have es : secondF s b c = (s, []) := by unfold secondF; rw [if_neg h1, if_pos h2, if_pos (Or.inr c2)]
      subst h2
      (refine gox ?_)
      (refine finx ?_; try with_reducible rfl)
      rw [es]; rfl
    have es : secondF s b c = ({ s with speed := c }, [27, 58, 117, c]) := by unfold secondF; rw [if_neg h1, if_pos h2, if_neg (by omega)]
    have w : IntKind.u8.wrap c = c := w_u8 (by omega) (by omega)
    subst h2
    (have fA := And.intro @PS.enc.eq_1 @w; have c1 := fun x1 x2 x3 => t_short x1 x2 x3; refine gox ?_; clear fA c1)
    (refine finx ?_; try with_reducible rfl)
    rw [es]
    try rw [w]
    try rfl
  by_cases h3 : b = 98
  · have es : secondF s b c = (if (toI c).2 then (s, linkL s (toI c).1) else (s, [])) := by unfold secondF; rw [if_neg h1, if_neg h2, if_pos h3]
    subst h3
    cases hb : (toI c).2
    all_goals (have c1 := fun x1 x2 => t_proto_to x1 x2; have c2 := fun x1 x2 x3 => t_linked x1 x2 x3; refine gox ?_; clear c1 c2)
    all_goals (refine finx ?_; try with_reducible rfl)
    all_goals rw [es, hb]
    all_goals rfl
  by_cases h4 : b = 114
  · by_cases c1 : c = 89
    · have es : secondF s b c = (s, [27, 59, 115, 89, boardI s]) := by unfold secondF; rw [if_neg h1, if_neg h2, if_neg h3, if_pos h4, if_pos c1]
      subst h4
      (have c1 := fun x1 => t_Board x1 s; have c2 := fun x1 x2 x3 x4 => t_long x1 x2 x3 x4; refine gox ?_; clear c1 c2)
      (refine finx ?_; try with_reducible rfl)
      rw [es]; rfl
    · have es : secondF s b c = (s, []) := by unfold secondF; rw [if_neg h1, if_neg h2, if_neg h3, if_pos h4, if_neg c1]
      subst h4
      (refine gox ?_)
      (refine finx ?_; try with_reducible rfl)
      rw [es]; rfl
  have es : secondF s b c = (s, []) := by unfold secondF; rw [if_neg h1, if_neg h2, if_neg h3, if_neg h4]
  have h5 : ¬ b = 105 := fun x => h1 (.inl x)
  have h6 : ¬ b = 106 := fun x => h1 (.inr x)
  (refine gox ?_)
  (refine finx ?_; try with_reducible rfl)
  rw [es]; rfl

end Go.Proofs.Ytnkpmgefeijffaa
