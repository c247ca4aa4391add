/- Functions of the seat, worked off from their code: chunk proto3. Written by program (tools/mkp.py) from wip/fn. -/
import Derived.Test.YtnkpmgefeijffaaSimT
import Derived.Test.YtnkpmgefeijffaaSimY
import Derived.Test.YtnkpmgefeijffaaPproto
set_option maxRecDepth 100000
set_option maxHeartbeats 40000000
set_option linter.unusedSimpArgs false
set_option linter.unusedVariables false
namespace Go.Proofs.Ytnkpmgefeijffaa
open Go Go.Sim
attribute [local irreducible] chk brX getX strX setX takeX normX fillX lendX partsX opsX callK lentK lentR giveX adoptX resX joinX headX loopX seqK blkK regK finX exOps ex eqT
attribute [local simp] setR_int setR_bool setR_zero setR_succ repl_int repl_bool List.getElem?_cons_zero List.getElem?_cons_succ List.getElem?_nil w_i64 w_u64 w_u8 bAnd_u8 bOr_u8 bXor_u8 bAndNot_u8 bShl_u8 wrap_u8_range all_plain_int all_plain_bool all_plain_app pl_bool pl_int pl_str pl_nilp pl_nsl pl_nilI pl_nilF take_map_len AV.cells TI.isAgg
attribute [local simp] Ev.flen Ev.rd Ev.g0 Ev.g1 Ev.g2 Ev.g3 Ev.g4 Ev.g5 Ev.g6 Ev.put Ev.pute Ev.s0 Ev.s1 Ev.s2 Ev.s3 Ev.s4 Ev.s5 Ev.s6 Ev.zero Ev.enc

attribute [local simp] PS.len rep_len
theorem t_proto_third (tag : Nat) (s : PS) (b c d : Int) : callω L T 28 tag [.agg s.enc, .int .i64 b, .int .i64 c, .int .i64 d] [none, none, none, none] = some (.tup [.agg (thirdF s b c d).1.enc, ansAV (thirdF s b c d).2], [none, none, none, none]) := by
  rw [call_ex (show T 28 = some (.code a28) from rfl) rfl rfl]
  by_cases h1 : b = 96 ∨ b = 97
  · have es : thirdF s b c d = (if (toI c).2 ∧ (fromI d).2 then ({ s with m := upd s.m (toI c).1 (fromI d).1 (decide (b = 97)) }, linkL { s with m := upd s.m (toI c).1 (fromI d).1 (decide (b = 97)) } (toI c).1) else (s, [])) := by unfold thirdF; rw [if_pos h1]
    by_cases d0 : d < 0
    · have ef : fromI d = (0, false) := if_neg (by omega)
      rw [ef, if_neg (by simp)] at es
      rcases h1 with h1 | h1
      all_goals subst h1
      all_goals (have c1 := fun x1 x2 => t_proto_to x1 x2; refine gox ?_; clear c1)
      all_goals (refine finx ?_; try with_reducible rfl)
      all_goals rw [es]
      all_goals rfl
    by_cases d1 : 255 < d
    · have ef : fromI d = (0, false) := if_neg (by omega)
      rw [ef, if_neg (by simp)] at es
      rcases h1 with h1 | h1
      all_goals subst h1
      all_goals (have c1 := fun x1 x2 => t_proto_to x1 x2; refine gox ?_; clear c1)
      all_goals (refine finx ?_; try with_reducible rfl)
      all_goals rw [es]
      all_goals rfl
    cases hb : (toI c).2
    case false =>
      rw [hb, if_neg (by simp)] at es
      rcases h1 with h1 | h1
      all_goals subst h1
      all_goals (have c1 := fun x1 x2 => t_proto_to x1 x2; refine gox ?_; clear c1)
      all_goals (refine finx ?_; try with_reducible rfl)
      all_goals rw [es]
      all_goals rfl
    case true =>
      have w : IntKind.u8.wrap d = d := w_u8 (by omega) (by omega)
      have tf := t_matrix_From (tag + 1) d (by omega) (by omega)
      have e : (if in4 (d - 80) = true then d - 80 else 0) = (fromI d).1 ∧ in4 (d - 80) = (fromI d).2 := by
        unfold fromI in4
        by_cases h : 80 ≤ d ∧ d < 84
        · rw [if_pos h]; simp; omega
        · rw [if_neg h]; simp; omega
      rw [e.1, e.2, ← w] at tf
      cases hf : (fromI (IntKind.u8.wrap d)).2
      case false =>
        have hf' := hf
        rw [w] at hf'
        rw [hb, hf', if_neg (by simp)] at es
        rcases h1 with h1 | h1
        all_goals subst h1
        all_goals (have c1 := fun x1 x2 => t_proto_to x1 x2; have c2 := tf; refine gox ?_; clear c1 c2)
        all_goals (refine finx ?_; try with_reducible rfl)
        all_goals rw [es]
        all_goals rfl
      case true =>
        have hf' := hf
        rw [w] at hf'
        rw [hb, hf', if_pos (by simp)] at es
        have ts := t_matrix_Set (tag + 1) (lst s.m) rfl (toI c).1 (fromI (IntKind.u8.wrap d)).1
        simp only [setB_lst] at ts
        rcases h1 with h1 | h1
        all_goals subst h1
        all_goals (have fA := And.intro @PS.enc.eq_1 (And.intro @lst.eq_1 (And.intro (@List.map_cons Bool AV) (@List.map_nil Bool AV))); have c1 := fun x1 x2 => t_proto_to x1 x2; have c2 := tf; have c3 := fun x1 => ts x1; have c4 := fun x1 x2 => t_linked x1 { s with m := upd s.m (toI c).1 (fromI (IntKind.u8.wrap d)).1 true } x2; have c5 := fun x1 x2 => t_linked x1 { s with m := upd s.m (toI c).1 (fromI (IntKind.u8.wrap d)).1 false } x2; refine gox ?_; clear fA c1 c2 c3 c4 c5)
        all_goals (refine finx ?_; try with_reducible rfl)
        all_goals rw [es]
        all_goals try rw [w]
        all_goals try rfl
  have h1a : ¬ b = 96 := fun x => h1 (.inl x)
  have h1b : ¬ b = 97 := fun x => h1 (.inr x)
  by_cases h2 : b = 105 ∨ b = 106
  · by_cases c1 : c = 89
    · by_cases d1 : d = 65
      · have es : thirdF s b c d = ({ s with ext := decide (b = 105) }, [27, 59, 115, 89, boardI { s with ext := decide (b = 105) }]) := by unfold thirdF; rw [if_neg h1, if_pos h2, if_pos ⟨c1, d1⟩]
        rcases h2 with h2 | h2
        all_goals subst h2
        all_goals (have fA := @PS.enc.eq_1; have c1 := fun x1 => t_Board x1 { s with ext := true }; have c2 := fun x1 => t_Board x1 { s with ext := false }; have c3 := fun x1 x2 x3 x4 => t_long x1 x2 x3 x4; refine gox ?_; clear fA c1 c2 c3)
        all_goals (refine finx ?_; try with_reducible rfl)
        all_goals rw [es]
        all_goals rfl
      by_cases d2 : d = 67
      · have es : thirdF s b c d = ({ s with c0 := decide (b = 105) }, [27, 59, 115, 89, boardI { s with c0 := decide (b = 105) }]) := by unfold thirdF; rw [if_neg h1, if_pos h2, if_neg (fun x => d1 x.2), if_pos ⟨c1, d2⟩]
        rcases h2 with h2 | h2
        all_goals subst h2
        all_goals (have fA := @PS.enc.eq_1; have c1 := fun x1 => t_Board x1 { s with c0 := true }; have c2 := fun x1 => t_Board x1 { s with c0 := false }; have c3 := fun x1 x2 x3 x4 => t_long x1 x2 x3 x4; refine gox ?_; clear fA c1 c2 c3)
        all_goals (refine finx ?_; try with_reducible rfl)
        all_goals rw [es]
        all_goals rfl
      have es : thirdF s b c d = (s, []) := by unfold thirdF; rw [if_neg h1, if_pos h2, if_neg (fun x => d1 x.2), if_neg (fun x => d2 x.2)]
      rcases h2 with h2 | h2
      all_goals subst h2
      all_goals (refine gox ?_)
      all_goals (refine finx ?_; try with_reducible rfl)
      all_goals rw [es]
      all_goals rfl
    have es : thirdF s b c d = (s, []) := by unfold thirdF; rw [if_neg h1, if_pos h2, if_neg (fun x => c1 x.1), if_neg (fun x => c1 x.1)]
    rcases h2 with h2 | h2
    all_goals subst h2
    all_goals (refine gox ?_)
    all_goals (refine finx ?_; try with_reducible rfl)
    all_goals rw [es]
    all_goals rfl
  have es : thirdF s b c d = (s, []) := by unfold thirdF; rw [if_neg h1, if_neg h2]
  have h5 : ¬ b = 105 := fun x => h2 (.inl x)
  have h6 : ¬ b = 106 := fun x => h2 (.inr x)
  (refine gox ?_)
  (refine finx ?_; try with_reducible rfl)
  rw [es]; rfl

end Go.Proofs.Ytnkpmgefeijffaa
