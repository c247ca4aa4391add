/- Functions of the seat, worked off from their code: chunk ask0. Written by program (tools/mkp.py) from wip/fn. -/
import Derived.Test.YtnkpmgefeijffaaSimT
import Derived.Test.YtnkpmgefeijffaaSimY
import Derived.Test.YtnkpmgefeijffaaPproto7
set_option maxRecDepth 100000
set_option maxHeartbeats 40000000
set_option linter.unusedSimpArgs false
set_option linter.unusedVariables false
namespace Go.Proofs.Ytnkpmgefeijffaa
open Go Go.Sim
attribute [local irreducible] chk brX getX strX setX takeX normX fillX lendX partsX opsX callK lentK giveX adoptX resX joinX headX loopX seqK blkK regK finX exOps ex eqT
attribute [local simp] setR_int setR_bool setR_zero setR_succ repl_int repl_bool List.getElem?_cons_zero List.getElem?_cons_succ List.getElem?_nil w_i64 w_u64 w_u8 bAnd_u8 bOr_u8 bXor_u8 bAndNot_u8 bShl_u8 wrap_u8_range all_plain_int all_plain_bool all_plain_app pl_bool pl_int pl_str pl_nilp pl_nsl pl_nilI pl_nilF take_map_len AV.cells TI.isAgg
attribute [local simp] Ev.flen Ev.rd Ev.g0 Ev.g1 Ev.g2 Ev.g3 Ev.g4 Ev.g5 Ev.g6 Ev.put Ev.pute Ev.s0 Ev.s1 Ev.s2 Ev.s3 Ev.s4 Ev.s5 Ev.s6 Ev.zero Ev.enc

attribute [local simp] PS.len rep_len
theorem and255_mod (c : Int) : bAnd .i64 c 255 = c % 256 := and_mask c (m := 8) (by omega)
theorem to_facts {c v : Int} {g : Bool} (hv : (if in4 (IntKind.u8.wrap (bAnd .i64 c 255) - 88) = true then IntKind.u8.wrap (bAnd .i64 c 255) - 88 else 0) = v) (hg : in4 (IntKind.u8.wrap (bAnd .i64 c 255) - 88) = g) :
    (toI c).2 = (g && decide (c ≤ 255) && decide (0 ≤ c)) ∧ ((toI c).2 = true → v = (toI c).1) := by
  rw [and255_mod, w_u8 (by omega) (by omega)] at hv hg
  subst hg
  unfold toI
  by_cases h : 0 ≤ c ∧ c ≤ 255
  · have e : c % 256 = c := by omega
    rw [e] at hv ⊢
    by_cases h2 : 88 ≤ c ∧ c < 92
    · have i4 : in4 (c - 88) = true := by unfold in4; simp; omega
      rw [if_pos h2]
      rw [if_pos i4] at hv
      subst hv
      simp [i4, h]
    · have i4 : in4 (c - 88) = false := by unfold in4; simp; omega
      rw [if_neg h2]
      simp [i4]
  · rw [if_neg (by omega)]
    refine ⟨?_, fun x => by cases x⟩
    by_cases h2 : c ≤ 255
    · simp [h2, show ¬ 0 ≤ c from by omega]
    · simp [h2]
theorem from_facts {c v : Int} {g : Bool} (hv : (if in4 (IntKind.u8.wrap (bAnd .i64 c 255) - 80) = true then IntKind.u8.wrap (bAnd .i64 c 255) - 80 else 0) = v) (hg : in4 (IntKind.u8.wrap (bAnd .i64 c 255) - 80) = g) :
    (fromI c).2 = (g && decide (c ≤ 255) && decide (0 ≤ c)) ∧ ((fromI c).2 = true → v = (fromI c).1) := by
  rw [and255_mod, w_u8 (by omega) (by omega)] at hv hg
  subst hg
  unfold fromI
  by_cases h : 0 ≤ c ∧ c ≤ 255
  · have e : c % 256 = c := by omega
    rw [e] at hv ⊢
    by_cases h2 : 80 ≤ c ∧ c < 84
    · have i4 : in4 (c - 80) = true := by unfold in4; simp; omega
      rw [if_pos h2]
      rw [if_pos i4] at hv
      subst hv
      simp [i4, h]
    · have i4 : in4 (c - 80) = false := by unfold in4; simp; omega
      rw [if_neg h2]
      simp [i4]
  · rw [if_neg (by omega)]
    refine ⟨?_, fun x => by cases x⟩
    by_cases h2 : c ≤ 255
    · simp [h2, show ¬ 0 ≤ c from by omega]
    · simp [h2]
theorem code_to {c : Int} (h : (toI c).2 = true) : codeI (toI c).1 true = c ∧ IntKind.u8.wrap c = c := by
  unfold toI at h ⊢
  by_cases h2 : 88 ≤ c ∧ c < 92
  · rw [if_pos h2]
    have i4 : in4 (c - 88) = true := by unfold in4; simp; omega
    unfold codeI
    rw [i4]
    refine ⟨?_, w_u8 (by omega) (by omega)⟩
    simp
    omega
  · rw [if_neg h2] at h; cases h

end Go.Proofs.Ytnkpmgefeijffaa
