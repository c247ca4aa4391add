/- Functions of the seat, worked off from their code: chunk attr8. Written by program (tools/mkp.py) from wip/fn. -/
import Derived.Test.YtaohdpebkongmaaSimT
import Derived.Test.YtaohdpebkongmaaSimY
import Derived.Test.YtaohdpebkongmaaPattr7
import Derived.Test.YtaohdpebkongmaaPsamec
set_option maxRecDepth 100000
set_option maxHeartbeats 40000000
set_option linter.unusedSimpArgs false
set_option linter.unusedVariables false
namespace Go.Proofs.Ytaohdpebkongmaa
open Go Go.Sim
attribute [local irreducible] chk brX getX strX setX takeX normX fillX lendX partsX opsX callK lentK giveX adoptX resX joinX headX loopX seqK blkK regK finX exOps ex
attribute [local simp] setR_int setR_bool setR_zero setR_succ repl_int repl_bool List.getElem?_cons_zero List.getElem?_cons_succ List.getElem?_nil w_i64 w_u64 w_u8 bAnd_u8 bOr_u8 bXor_u8 bAndNot_u8 bShl_u8 wrap_u8_range all_plain_int all_plain_bool all_plain_app pl_bool pl_int pl_str pl_nilp pl_nsl pl_nilI pl_nilF take_map_len AV.cells TI.isAgg
attribute [local simp] Cell.flen Cell.rd Cell.g0 Cell.g1 Cell.g2 Cell.g3 Cell.g4 Cell.g5 Cell.g6 Cell.g7 Cell.g8 Cell.g9 Cell.put Cell.pute Cell.s0 Cell.s1 Cell.s2 Cell.s3 Cell.s4 Cell.s5 Cell.s6 Cell.s7 Cell.s8 Cell.s9 Cell.zero Cell.enc At.flen At.rd At.g0 At.g1 At.g2 At.g3 At.g4 At.g5 At.g6 At.g7 At.g8 At.g9 At.g10 At.put At.pute At.s0 At.s1 At.s2 At.s3 At.s4 At.s5 At.s6 At.s7 At.s8 At.s9 At.s10 At.zero At.enc

def behind2F (s : At) (c : Int) : At := { behindF s c with last := c }
theorem step_eq (s : At) (b o : Int) : stepF s b o = (behind2F { atF s (bAnd .u8 b 127) with held := (glyphF (atF s (bAnd .u8 b 127)) (bAnd .u8 b 127) o).2 } (bAnd .u8 b 127), cellF (atF s (bAnd .u8 b 127)) (glyphF (atF s (bAnd .u8 b 127)) (bAnd .u8 b 127) o).1) := rfl
theorem t_r12_Start (tag : Nat) : callω L T 20 tag [] [] = some (.agg At.start.enc, []) := by
  rw [call_ex (show T 20 = some (.code a20) from rfl) rfl rfl]
  (refine gox ?_)
  (refine finx ?_; try with_reducible rfl)
  rfl
theorem t_r12_at (tag : Nat) (s : At) (c : Int) : callω L T 30 tag [.agg s.enc, .int .u8 c] [none, none] = some (.agg (atF s c).enc, [none, none]) := by
  rw [call_ex (show T 30 = some (.code a30) from rfl) rfl rfl]
  unfold atF
  by_cases c1 : c = 9
  · subst c1
    (have fA := @At.enc.eq_1; refine gox ?_; clear fA)
    (refine finx ?_; try with_reducible rfl)
    rfl
  rw [if_neg c1]
  by_cases c2 : c = 12
  · subst c2
    rw [if_pos rfl, dblF]
    cases hd : s.double
    all_goals (have fA := @At.enc.eq_1; refine gox ?_; clear fA)
    all_goals (refine finx ?_; try with_reducible rfl)
    all_goals rfl
  rw [if_neg c2]
  by_cases c3 : c = 24
  · subst c3
    (have fA := @At.enc.eq_1; refine gox ?_; clear fA)
    (refine finx ?_; try with_reducible rfl)
    rfl
  rw [if_neg c3]
  by_cases c4 : c = 25
  · subst c4
    (have fA := @At.enc.eq_1; refine gox ?_; clear fA)
    (refine finx ?_; try with_reducible rfl)
    rfl
  by_cases c5 : c = 26
  · subst c5
    (have fA := @At.enc.eq_1; refine gox ?_; clear fA)
    (refine finx ?_; try with_reducible rfl)
    rfl
  rw [if_neg (by omega)]
  by_cases c6 : c = 28
  · subst c6
    (have fA := @At.enc.eq_1; refine gox ?_; clear fA)
    (refine finx ?_; try with_reducible rfl)
    rfl
  rw [if_neg c6]
  by_cases c7 : c = 29
  · subst c7
    (have fA := @At.enc.eq_1; refine gox ?_; clear fA)
    (refine finx ?_; try with_reducible rfl)
    rfl
  rw [if_neg c7]
  by_cases c8 : c = 30
  · subst c8
    (have fA := @At.enc.eq_1; refine gox ?_; clear fA)
    (refine finx ?_; try with_reducible rfl)
    rfl
  rw [if_neg c8]
  by_cases c9 : c = 11
  · subst c9
    rw [if_pos (Or.inl rfl)]
    cases hb : s.box
    all_goals by_cases l : s.last = 11
    all_goals first | rw [if_pos l] | rw [if_neg l]
    all_goals (have fA := @At.enc.eq_1; refine gox ?_; clear fA)
    all_goals (refine finx ?_; try with_reducible rfl)
    all_goals simp [hb, l]
  by_cases c10 : c = 10
  · subst c10
    rw [if_pos (Or.inr rfl)]
    cases hb : s.box
    all_goals by_cases l : s.last = 10
    all_goals first | rw [if_pos l] | rw [if_neg l]
    all_goals (have fA := @At.enc.eq_1; refine gox ?_; clear fA)
    all_goals (refine finx ?_; try with_reducible rfl)
    all_goals simp [hb, l]
  rw [if_neg (by omega)]
  (have fA := @At.enc.eq_1; refine gox ?_; clear fA)
  (refine finx ?_; try with_reducible rfl)
  rfl
theorem t_r12_behind (tag : Nat) (s : At) (c : Int) (h0 : 0 ≤ c) (h1 : c < 256) : callω L T 32 tag [.agg s.enc, .int .u8 c] [none, none] = some (.agg (behind2F s c).enc, [none, none]) := by
  rw [call_ex (show T 32 = some (.code a32) from rfl) rfl rfl]
  unfold behind2F behindF
  have a7 : c < 8 ∨ 16 ≤ c ∧ c < 24 → IntKind.i64.wrap (bAnd .u8 c 7) = if c < 8 then c else c - 16 := by
    intro h
    obtain ⟨n, rfl⟩ : ∃ n : Nat, c = n := ⟨c.toNat, by omega⟩
    rw [and7_8 n (by omega), w_i64 (by omega) (by omega)]
    split <;> omega
  by_cases c1 : c < 8
  · rw [if_pos c1, colF]
    have e := a7 (Or.inl c1)
    rw [if_pos c1] at e
    have q : (!(s.mosaic == decide (16 ≤ c))) = s.mosaic := by rw [decide_eq_false (by omega)]; cases s.mosaic <;> rfl
    cases hm : s.mosaic
    all_goals replace q := q.trans hm
    all_goals (have fA := And.intro @At.enc.eq_1 @e; refine gox ?_; clear fA)
    all_goals (refine finx ?_; try with_reducible rfl)
    all_goals simp [e]
    all_goals omega
  rw [if_neg c1]
  by_cases c2 : c < 16
  · rw [if_neg (by omega)]
    by_cases c4 : c = 8
    · subst c4
      (have fA := @At.enc.eq_1; refine gox ?_; clear fA)
      (refine finx ?_; try with_reducible rfl)
      rfl
    rw [if_neg c4]
    by_cases c5 : c = 13
    · subst c5
      rw [if_pos rfl, dblF]
      cases hd : s.double
      all_goals (have fA := @At.enc.eq_1; refine gox ?_; clear fA)
      all_goals (refine finx ?_; try with_reducible rfl)
      all_goals rfl
    rw [if_neg c5, if_neg (by omega)]
    (have fA := @At.enc.eq_1; refine gox ?_; clear fA)
    (refine finx ?_; try with_reducible rfl)
    rfl
  by_cases c3 : c < 24
  · rw [if_pos (by omega), colF]
    have e := a7 (Or.inr ⟨by omega, c3⟩)
    rw [if_neg c1] at e
    have q : (!(s.mosaic == decide (16 ≤ c))) = !s.mosaic := by rw [decide_eq_true (by omega)]; cases s.mosaic <;> rfl
    cases hm : s.mosaic
    all_goals replace q := q.trans (congrArg Bool.not hm)
    all_goals (have fA := And.intro @At.enc.eq_1 @e; refine gox ?_; clear fA)
    all_goals (refine finx ?_; try with_reducible rfl)
    all_goals simp [e]
    all_goals omega
  rw [if_neg (by omega), if_neg (by omega), if_neg (by omega)]
  by_cases c6 : c = 31
  · subst c6
    (have fA := @At.enc.eq_1; refine gox ?_; clear fA)
    (refine finx ?_; try with_reducible rfl)
    rfl
  rw [if_neg c6]
  (have fA := @At.enc.eq_1; refine gox ?_; clear fA)
  (refine finx ?_; try with_reducible rfl)
  rfl
theorem t_r12_Step (tag : Nat) (s : At) (b o : Int) : callω L T 12 tag [.agg s.enc, .int .u8 b, .int .i64 o] [none, none, none] = some (.tup [.agg (stepF s b o).1.enc, .agg (stepF s b o).2.enc], [none, none, none]) := by
  rw [call_ex (show T 12 = some (.code a12) from rfl) rfl rfl]
  obtain ⟨h0, h1⟩ := a127 b
  rw [step_eq]
  have ta := t_r12_at (tag + 1) s (bAnd .u8 b 127)
  generalize atF s (bAnd .u8 b 127) = t at ta ⊢
  have tp := t_r1_Pattern (tag + 1) (bAnd .u8 b 127) h0 h1
  have ti := t_r1_IsMosaic (tag + 1) (bAnd .u8 b 127)
  have tg := t_r1_Mosaic (tag + 1) (patI (bAnd .u8 b 127)) t.parted
  have tc := t_r1_Latin (tag + 1) o (bAnd .u8 b 127)
  have tb := fun u => t_r12_behind (tag + 1) u (bAnd .u8 b 127) h0 h1
  have ec : ∀ g, cellF t g = ⟨g, t.fg, t.bg, t.flash, t.conceal, t.box, false, false, if t.double = true then 1 else 0, 0⟩ := fun _ => rfl
  unfold glyphF
  rw [ec]
  by_cases c1 : bAnd .u8 b 127 < 32
  · rw [if_pos c1]
    have tb := tb t
    cases hd : t.double
    all_goals cases hh : t.hold
    all_goals cases hm : t.mosaic
    all_goals (have fA := @At.enc.eq_1; have c1 := ta; have c2 := tb; refine gox ?_; clear fA c1 c2)
    all_goals (refine finx ?_; try with_reducible rfl)
    all_goals try rfl
  rw [if_neg c1]
  cases hm : t.mosaic
  · have tb := tb t
    cases hd : t.double
    all_goals (have fA := @At.enc.eq_1; have c1 := ta; have c2 := tb; have c3 := tc; refine gox ?_; clear fA c1 c2 c3)
    all_goals (refine finx ?_; try with_reducible rfl)
    all_goals try rfl
  · cases hi : isMos (bAnd .u8 b 127)
    · rw [hi] at ti
      have tb := tb t
      cases hd : t.double
      all_goals (have fA := @At.enc.eq_1; have c1 := ta; have c2 := tb; have c3 := tc; have c4 := ti; refine gox ?_; clear fA c1 c2 c3 c4)
      all_goals (refine finx ?_; try with_reducible rfl)
      all_goals try rfl
    · rw [hi] at ti
      have tb := tb { t with held := mGlyphI (patI (bAnd .u8 b 127)) t.parted }
      cases hd : t.double
      all_goals (have fA := @At.enc.eq_1; have c1 := ta; have c2 := tb; have c3 := tc; have c4 := ti; have c5 := tp; have c6 := tg; refine gox ?_; clear fA c1 c2 c3 c4 c5 c6)
      all_goals (refine finx ?_; try with_reducible rfl)
      all_goals try rfl

end Go.Proofs.Ytaohdpebkongmaa
