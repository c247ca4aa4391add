/- Functions of the seat, worked off from their code: chunk proto4. Written by program (tools/mkp.py) from wip/fn. -/
import Derived.Test.YtnkpmgefeijffaaSimT
import Derived.Test.YtnkpmgefeijffaaSimY
import Derived.Test.YtnkpmgefeijffaaPproto2
import Derived.Test.YtnkpmgefeijffaaPproto3
set_option maxRecDepth 100000
set_option maxHeartbeats 40000000
set_option linter.unusedSimpArgs false
set_option linter.unusedVariables false
namespace Go.Proofs.Ytnkpmgefeijffaa
open Go Go.Sim
attribute [local irreducible] chk brX getX strX setX takeX normX fillX lendX partsX opsX callK lentK lentR giveX adoptX resX joinX headX loopX seqK blkK regK finX exOps ex eqT
attribute [local simp] setR_int setR_bool setR_zero setR_succ repl_int repl_bool List.getElem?_cons_zero List.getElem?_cons_succ List.getElem?_nil w_i64 w_u64 w_u8 bAnd_u8 bOr_u8 bXor_u8 bAndNot_u8 bShl_u8 wrap_u8_range all_plain_int all_plain_bool all_plain_app pl_bool pl_int pl_str pl_nilp pl_nsl pl_nilI pl_nilF take_map_len AV.cells TI.isAgg
attribute [local simp] Ev.flen Ev.rd Ev.g0 Ev.g1 Ev.g2 Ev.g3 Ev.g4 Ev.g5 Ev.g6 Ev.put Ev.pute Ev.s0 Ev.s1 Ev.s2 Ev.s3 Ev.s4 Ev.s5 Ev.s6 Ev.zero Ev.enc

attribute [local simp] PS.len rep_len
theorem t_proto_Ask (tag : Nat) (s : PS) (e : Ev) : callω L T 14 tag [.agg s.enc, .agg e.enc] [none, none] = some (.tup [.agg (askF s e).1.enc, ansAV (askF s e).2], [none, none]) := by
  rw [call_ex (show T 14 = some (.code a14) from rfl) rfl rfl]
  by_cases hk : e.kind = 10
  · have ea : askF s e = withEcho (if e.a = 1 then firstF s e.b else if e.a = 2 then secondF s e.b e.c else if e.a = 3 then thirdF s e.b e.c e.d else (s, [])) := if_pos hk
    have th := fun m : Nat → Bool => (by
      have h := t_matrix_Hears (tag + 1) (lst m) rfl 0 1
      rw [hears_lst] at h
      exact h : callω L T 23 (tag + 1) [.ref 0 (tag + 1, 0) 0, .int .i64 0, .int .i64 1] [some ((lst m).map .bool), none, none] = some (.bool (hears m 0 1), [some ((lst m).map .bool), none, none]))
    by_cases a1 : e.a = 1
    · rw [if_pos a1] at ea
      generalize hp : firstF s e.b = p at ea
      have tp := t_proto_first (tag + 1) s e.b
      rw [hp] at tp
      (have fA := And.intro @PS.enc.eq_1 (And.intro @lst.eq_1 (And.intro (@List.map_cons Bool AV) (@List.map_nil Bool AV))); have c1 := tp; have c2 := fun x1 => th x1; refine gox ?_; clear fA c1 c2)
      (refine finx ?_; try with_reducible rfl)
      rw [ea]
      try rfl
    rw [if_neg a1] at ea
    by_cases a2 : e.a = 2
    · rw [if_pos a2] at ea
      generalize hp : secondF s e.b e.c = p at ea
      have tp := t_proto_second (tag + 1) s e.b e.c
      rw [hp] at tp
      (have fA := And.intro @PS.enc.eq_1 (And.intro @lst.eq_1 (And.intro (@List.map_cons Bool AV) (@List.map_nil Bool AV))); have c1 := tp; have c2 := fun x1 => th x1; refine gox ?_; clear fA c1 c2)
      (refine finx ?_; try with_reducible rfl)
      rw [ea]
      try rfl
    rw [if_neg a2] at ea
    by_cases a3 : e.a = 3
    · rw [if_pos a3] at ea
      generalize hp : thirdF s e.b e.c e.d = p at ea
      have tp := t_proto_third (tag + 1) s e.b e.c e.d
      rw [hp] at tp
      (have fA := And.intro @PS.enc.eq_1 (And.intro @lst.eq_1 (And.intro (@List.map_cons Bool AV) (@List.map_nil Bool AV))); have c1 := tp; have c2 := fun x1 => th x1; refine gox ?_; clear fA c1 c2)
      (refine finx ?_; try with_reducible rfl)
      rw [ea]
      try rfl
    rw [if_neg a3] at ea
    (have fA := And.intro @PS.enc.eq_1 (And.intro @lst.eq_1 (And.intro (@List.map_cons Bool AV) (@List.map_nil Bool AV))); have c1 := fun x1 => th x1; refine gox ?_; clear fA c1)
    (refine finx ?_; try with_reducible rfl)
    rw [ea]
    try rfl
  · have ea : askF s e = (s, []) := if_neg hk
    (refine gox ?_)
    (refine finx ?_; try with_reducible rfl)
    rw [ea]; rfl

end Go.Proofs.Ytnkpmgefeijffaa
