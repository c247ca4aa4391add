/- Functions of the seat, worked off from their code: chunk ask3. Written by program (tools/mkp.py) from wip/fn. -/
import Derived.Test.YtnkpmgefeijffaaSimT
import Derived.Test.YtnkpmgefeijffaaSimY
import Derived.Test.YtnkpmgefeijffaaPask0
set_option maxRecDepth 100000
set_option maxHeartbeats 40000000
set_option linter.unusedSimpArgs false
set_option linter.unusedVariables false
namespace Go.Proofs.Ytnkpmgefeijffaa
open Go Go.Sim
attribute [local irreducible] chk brX getX strX setX takeX normX fillX lendX partsX opsX callK lentK giveX adoptX resX joinX headX loopX seqK blkK regK finX exOps ex eqT
attribute [local simp] setR_int setR_bool setR_zero setR_succ repl_int repl_bool List.getElem?_cons_zero List.getElem?_cons_succ List.getElem?_nil w_i64 w_u64 w_u8 bAnd_u8 bOr_u8 bXor_u8 bAndNot_u8 bShl_u8 wrap_u8_range all_plain_int all_plain_bool all_plain_app pl_bool pl_int pl_str pl_nilp pl_nsl pl_nilI pl_nilF take_map_len AV.cells TI.isAgg
attribute [local simp] Ev.flen Ev.rd Ev.g0 Ev.g1 Ev.g2 Ev.g3 Ev.g4 Ev.g5 Ev.g6 Ev.put Ev.pute Ev.s0 Ev.s1 Ev.s2 Ev.s3 Ev.s4 Ev.s5 Ev.s6 Ev.zero Ev.enc

attribute [local simp] PS.len rep_len
theorem t_ask_97 (tag : Nat) (s : PS) (e : Ev) (hk : e.kind = 10) (b1 : e.b = 97) : callω L T 15 tag [.agg s.enc, .agg e.enc] [none, none] = some (.tup [.agg (askF s e).1.enc, ansAV (askF s e).2], [none, none]) := by
  rw [call_ex (show T 15 = some (.code a15) from rfl) rfl rfl]
  have ea : askF s e = withEcho (if e.a = 1 then firstF s e.b else if e.a = 2 then secondF s e.b e.c else if e.a = 3 then thirdF s e.b e.c e.d else (s, [])) := if_pos hk
  have th := fun m : Nat → Bool => (by
    have h := t_ref20_Hears (tag + 1) (lst m) rfl 0 1
    rw [hears_lst] at h
    exact h : callω L T 33 (tag + 1) [.ref 0 (tag + 1, 0) 0, .int .i64 0, .int .i64 1] [some ((lst m).map .bool), none, none] = some (.bool (hears m 0 1), [some ((lst m).map .bool), none, none]))
  have tst := fun (m : Nat → Bool) (md : Int) => (by
    have h := t_ref20_Status (tag + 1) (lst m) rfl md
    rw [stat_lst] at h
    exact h : callω L T 31 (tag + 1) [.ref 0 (tag + 1, 0) 0, .int .i64 md] [some ((lst m).map .bool), none] = some (.int .u8 (stat m md), [some ((lst m).map .bool), none]))
  have t1 := t_ref20_ToCode (tag + 1) (IntKind.u8.wrap (bAnd .i64 e.c 255)) (wrap_u8_range _).1 (wrap_u8_range _).2
  have t2 := t_ref20_FromCode (tag + 1) (IntKind.u8.wrap (bAnd .i64 e.d 255)) (wrap_u8_range _).1 (wrap_u8_range _).2
  obtain ⟨v8, hv8⟩ : ∃ v, (if in4 (IntKind.u8.wrap (bAnd .i64 e.c 255) - 88) = true then IntKind.u8.wrap (bAnd .i64 e.c 255) - 88 else 0) = v := ⟨_, rfl⟩
  obtain ⟨g0, hg0⟩ : ∃ g, in4 (IntKind.u8.wrap (bAnd .i64 e.c 255) - 88) = g := ⟨_, rfl⟩
  obtain ⟨v10, hv10⟩ : ∃ v, (if in4 (IntKind.u8.wrap (bAnd .i64 e.d 255) - 80) = true then IntKind.u8.wrap (bAnd .i64 e.d 255) - 80 else 0) = v := ⟨_, rfl⟩
  obtain ⟨f0, hf0⟩ : ∃ g, in4 (IntKind.u8.wrap (bAnd .i64 e.d 255) - 80) = g := ⟨_, rfl⟩
  obtain ⟨hG, hV⟩ := to_facts hv8 hg0
  obtain ⟨hF, hW⟩ := from_facts hv10 hf0
  rw [hv8, hg0] at t1
  rw [hv10, hf0] at t2
  clear hv8 hg0 hv10 hf0
  have hz : repl 4 [AV.bool false, AV.bool false, AV.bool false, AV.bool false] ++ [AV.bool false] ++ [AV.bool false] ++ [AV.bool false] ++ [AV.bool false] ++ [AV.int .u8 0] ++ [AV.bool false] = PS.enc ⟨fun _ => false, false, false, false, false, 0, false⟩ := rfl
  generalize hGG : (toI e.c).2 = G at hG hV
  generalize hFF : (fromI e.d).2 = F at hF hW
  (have fA := And.intro @Ev.enc.eq_1 (And.intro @PS.enc.eq_1 (And.intro @lst.eq_1 (And.intro (@List.map_cons Bool AV) (@List.map_nil Bool AV)))); have c1 := t1; have c2 := t2; refine gox ?_; clear fA c1 c2)
  -- ga
  refine goal_join (Q := ?kQga) (fun key => ?kkga) ?kbga
  case kkga =>
    by_cases hg : g0 = true
    · subst hg
      by_cases hc : e.c ≤ 255
      · by_cases hc0 : 0 ≤ e.c
        · (have fA := And.intro @Ev.enc.eq_1 (And.intro @PS.enc.eq_1 (And.intro @lst.eq_1 (And.intro (@List.map_cons Bool AV) (@List.map_nil Bool AV)))); have c1 := t1; have c2 := t2; refine gox ?_; clear fA c1 c2)
          rw [show decide (0 ≤ e.c) = G from by rw [hG, decide_eq_true hc]; rfl]
          exact key.out
        · (have fA := And.intro @Ev.enc.eq_1 (And.intro @PS.enc.eq_1 (And.intro @lst.eq_1 (And.intro (@List.map_cons Bool AV) (@List.map_nil Bool AV)))); have c1 := t1; have c2 := t2; refine gox ?_; clear fA c1 c2)
          rw [show decide (0 ≤ e.c) = G from by rw [hG, decide_eq_true hc]; rfl]
          exact key.out
      · have q : G = false := by rw [hG, decide_eq_false hc]; rfl
        have key2 := key.out
        rw [q] at key2
        clear q
        (have fA := And.intro @Ev.enc.eq_1 (And.intro @PS.enc.eq_1 (And.intro @lst.eq_1 (And.intro (@List.map_cons Bool AV) (@List.map_nil Bool AV)))); have c1 := t1; have c2 := t2; refine gox ?_; clear fA c1 c2)
        exact key2
    · have hg' : g0 = false := by simpa using hg
      subst hg'
      have q : G = false := by rw [hG]; rfl
      have key2 := key.out
      rw [q] at key2
      clear q
      (have fA := And.intro @Ev.enc.eq_1 (And.intro @PS.enc.eq_1 (And.intro @lst.eq_1 (And.intro (@List.map_cons Bool AV) (@List.map_nil Bool AV)))); have c1 := t1; have c2 := t2; refine gox ?_; clear fA c1 c2)
      exact key2
  case kbga =>
    skip
    -- fa
    refine goal_join (Q := ?kQfa) (fun key => ?kkfa) ?kbfa
    case kkfa =>
      by_cases hg : f0 = true
      · subst hg
        by_cases hc : e.d ≤ 255
        · by_cases hc0 : 0 ≤ e.d
          · (have fA := And.intro @Ev.enc.eq_1 (And.intro @PS.enc.eq_1 (And.intro @lst.eq_1 (And.intro (@List.map_cons Bool AV) (@List.map_nil Bool AV)))); have c1 := t1; have c2 := t2; refine gox ?_; clear fA c1 c2)
            rw [show decide (0 ≤ e.d) = F from by rw [hF, decide_eq_true hc]; rfl]
            exact key.out
          · (have fA := And.intro @Ev.enc.eq_1 (And.intro @PS.enc.eq_1 (And.intro @lst.eq_1 (And.intro (@List.map_cons Bool AV) (@List.map_nil Bool AV)))); have c1 := t1; have c2 := t2; refine gox ?_; clear fA c1 c2)
            rw [show decide (0 ≤ e.d) = F from by rw [hF, decide_eq_true hc]; rfl]
            exact key.out
        · have q : F = false := by rw [hF, decide_eq_false hc]; rfl
          have key2 := key.out
          rw [q] at key2
          clear q
          (have fA := And.intro @Ev.enc.eq_1 (And.intro @PS.enc.eq_1 (And.intro @lst.eq_1 (And.intro (@List.map_cons Bool AV) (@List.map_nil Bool AV)))); have c1 := t1; have c2 := t2; refine gox ?_; clear fA c1 c2)
          exact key2
      · have hg' : f0 = false := by simpa using hg
        subst hg'
        have q : F = false := by rw [hF]; rfl
        have key2 := key.out
        rw [q] at key2
        clear q
        (have fA := And.intro @Ev.enc.eq_1 (And.intro @PS.enc.eq_1 (And.intro @lst.eq_1 (And.intro (@List.map_cons Bool AV) (@List.map_nil Bool AV)))); have c1 := t1; have c2 := t2; refine gox ?_; clear fA c1 c2)
        exact key2
    case kbfa =>
      clear hG hF
      by_cases a1 : e.a = 1
      · skip
        have es : askF s e = withEcho (s, []) := by
          rw [ea]
          simp [firstF, secondF, thirdF, *]
        (have fA := And.intro @Ev.enc.eq_1 (And.intro @PS.enc.eq_1 (And.intro @lst.eq_1 (And.intro (@List.map_cons Bool AV) (@List.map_nil Bool AV)))); have c1 := fun x1 => th x1; refine gox ?_; clear fA c1)
        (refine finx ?_; try with_reducible rfl)
        rw [es]
        try rfl
      · skip
        by_cases a2 : e.a = 2
        · skip
          have es : askF s e = withEcho (s, []) := by
            rw [ea]
            simp [firstF, secondF, thirdF, *]
          (have fA := And.intro @Ev.enc.eq_1 (And.intro @PS.enc.eq_1 (And.intro @lst.eq_1 (And.intro (@List.map_cons Bool AV) (@List.map_nil Bool AV)))); have c1 := fun x1 => th x1; refine gox ?_; clear fA c1)
          (refine finx ?_; try with_reducible rfl)
          rw [es]
          try rfl
        · skip
          by_cases a3 : e.a = 3
          · skip
            cases G
            · skip
              have es : askF s e = withEcho (s, []) := by
                rw [ea]
                simp [firstF, secondF, thirdF, *]
              (have fA := And.intro @Ev.enc.eq_1 (And.intro @PS.enc.eq_1 (And.intro @lst.eq_1 (And.intro (@List.map_cons Bool AV) (@List.map_nil Bool AV)))); have c1 := fun x1 => th x1; refine gox ?_; clear fA c1)
              (refine finx ?_; try with_reducible rfl)
              rw [es]
              try rfl
            · skip
              cases F
              · skip
                have es : askF s e = withEcho (s, []) := by
                  rw [ea]
                  simp [firstF, secondF, thirdF, *]
                (have fA := And.intro @Ev.enc.eq_1 (And.intro @PS.enc.eq_1 (And.intro @lst.eq_1 (And.intro (@List.map_cons Bool AV) (@List.map_nil Bool AV)))); have c1 := fun x1 => th x1; refine gox ?_; clear fA c1)
                (refine finx ?_; try with_reducible rfl)
                rw [es]
                try rfl
              · skip
                have hV := hV rfl
                have hW := hW rfl
                subst hV
                subst hW
                obtain ⟨cc, wc⟩ := code_to hGG
                have ts := t_ref20_Set (tag + 1) (lst s.m) rfl (toI e.c).1 (fromI e.d).1
                simp only [setB_lst] at ts
                have tu := tst (upd s.m (toI e.c).1 (fromI e.d).1 (decide (e.b = 97))) (toI e.c).1
                have es : askF s e = withEcho ({ s with m := upd s.m (toI e.c).1 (fromI e.d).1 (decide (e.b = 97)) }, linkL { s with m := upd s.m (toI e.c).1 (fromI e.d).1 (decide (e.b = 97)) } (toI e.c).1) := by
                  rw [ea]
                  simp [firstF, secondF, thirdF, *]
                (have fA := And.intro @Ev.enc.eq_1 (And.intro @PS.enc.eq_1 (And.intro @lst.eq_1 (And.intro (@List.map_cons Bool AV) (@List.map_nil Bool AV)))); have c1 := fun x1 => th x1; have c2 := fun x1 => ts x1; have c3 := tu; refine gox ?_; clear fA c1 c2 c3)
                (refine finx ?_; try with_reducible rfl)
                rw [es]
                try rw [wc]; try (unfold linkL; rw [cc]; rfl)
          · skip
            have es : askF s e = withEcho (s, []) := by
              rw [ea]
              simp [firstF, secondF, thirdF, *]
            (have fA := And.intro @Ev.enc.eq_1 (And.intro @PS.enc.eq_1 (And.intro @lst.eq_1 (And.intro (@List.map_cons Bool AV) (@List.map_nil Bool AV)))); have c1 := fun x1 => th x1; refine gox ?_; clear fA c1)
            (refine finx ?_; try with_reducible rfl)
            rw [es]
            try rfl

end Go.Proofs.Ytnkpmgefeijffaa
