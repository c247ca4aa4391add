/- Functions of the seat, worked off from their code: chunk proto6. Written by program (tools/mkp.py) from wip/fn. -/
import Derived.Test.YtnkpmgefeijffaaSimT
import Derived.Test.YtnkpmgefeijffaaSimY
import Derived.Test.YtnkpmgefeijffaaPproto5
set_option maxRecDepth 100000
set_option maxHeartbeats 40000000
set_option linter.unusedSimpArgs false
set_option linter.unusedVariables false
namespace Go.Proofs.Ytnkpmgefeijffaa
open Go Go.Sim
attribute [local irreducible] chk brX getX strX setX takeX normX fillX lendX partsX opsX callK lentK lentR giveX adoptX resX joinX headX loopX seqK blkK regK finX exOps ex eqT
attribute [local simp] setR_int setR_bool setR_zero setR_succ repl_int repl_bool List.getElem?_cons_zero List.getElem?_cons_succ List.getElem?_nil w_i64 w_u64 w_u8 bAnd_u8 bOr_u8 bXor_u8 bAndNot_u8 bShl_u8 wrap_u8_range all_plain_int all_plain_bool all_plain_app pl_bool pl_int pl_str pl_nilp pl_nsl pl_nilI pl_nilF take_map_len AV.cells TI.isAgg
attribute [local simp] Ev.flen Ev.rd Ev.g0 Ev.g1 Ev.g2 Ev.g3 Ev.g4 Ev.g5 Ev.g6 Ev.put Ev.pute Ev.s0 Ev.s1 Ev.s2 Ev.s3 Ev.s4 Ev.s5 Ev.s6 Ev.zero Ev.enc

attribute [local simp] PS.len rep_len
theorem t_law25_plain (tag : Nat) (s : PS) : callω L T 13 tag [.agg s.enc] [none] = some (.agg s.enc, [none]) := by
  rw [call_ex (show T 13 = some (.code a13) from rfl) rfl rfl]
  have th := fun i k : Int => (by
      have h := t_matrix_Hears (tag + 1) (lst s.m) rfl i k
      rw [hears_lst] at h
      exact h : callω L T 23 (tag + 1) [.ref 0 (tag + 1, 0) 0, .int .i64 i, .int .i64 k] [some ((lst s.m).map .bool), none, none] = some (.bool (hears s.m i k), [some ((lst s.m).map .bool), none, none]))
  have hz : repl 4 [AV.bool false, AV.bool false, AV.bool false, AV.bool false] = [.bool false, .bool false, .bool false, .bool false, .bool false, .bool false, .bool false, .bool false, .bool false, .bool false, .bool false, .bool false, .bool false, .bool false, .bool false, .bool false] := rfl
  (have fA := And.intro @hz (And.intro @PS.enc.eq_1 (And.intro @lst.eq_1 (And.intro (@List.map_cons Bool AV) (@List.map_nil Bool AV)))); have c1 := fun x1 x2 => th x1 x2; refine gox ?_; clear fA c1)
  iterate 25 ((refine nrm ?_); refine Eq.trans headX_go ?_; (have fA := And.intro @hz (And.intro @PS.enc.eq_1 (And.intro @lst.eq_1 (And.intro (@List.map_cons Bool AV) (@List.map_nil Bool AV)))); have c1 := fun x1 x2 => th x1 x2; refine gox ?_; clear fA c1))
  (refine finx ?_; try with_reducible rfl)
  rfl
theorem t_law25_same (tag : Nat) (s : PS) : callω L T 12 tag [.agg s.enc, .agg s.enc] [none, none] = some (.bool true, [none, none]) := by
  rw [call_ex (show T 12 = some (.code a12) from rfl) rfl rfl]
  have qb : ∀ b : Bool, (!(b == b)) = false := by intro b; cases b <;> rfl
  have q0 := qb (s.m 0)
  have q1 := qb (s.m 1)
  have q2 := qb (s.m 2)
  have q3 := qb (s.m 3)
  have q4 := qb (s.m 4)
  have q5 := qb (s.m 5)
  have q6 := qb (s.m 6)
  have q7 := qb (s.m 7)
  have q8 := qb (s.m 8)
  have q9 := qb (s.m 9)
  have q10 := qb (s.m 10)
  have q11 := qb (s.m 11)
  have q12 := qb (s.m 12)
  have q13 := qb (s.m 13)
  have q14 := qb (s.m 14)
  have q15 := qb (s.m 15)
  have be : ∀ b : Bool, (b == b) = true := by intro b; cases b <;> rfl
  have r0 := be s.roll
  have r1 := be s.lower
  have r2 := be s.ext
  have r3 := be s.c0
  have r4 := be s.echo
  have r5 : (s.speed == s.speed) = true := by simp
  (have fA := @PS.enc.eq_1; refine gox ?_; clear fA)
  iterate 25 ((refine nrm ?_); refine Eq.trans headX_go ?_; (have fA := @PS.enc.eq_1; refine gox ?_; clear fA))
  (refine finx ?_; try with_reducible rfl)
  simp

end Go.Proofs.Ytnkpmgefeijffaa
