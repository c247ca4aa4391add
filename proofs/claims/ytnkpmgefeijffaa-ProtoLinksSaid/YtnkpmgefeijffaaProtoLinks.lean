/- ProtoLinks: a link that is asked for is there, or not, as asked, if it may be; the answer tells who is heard then. No condition. -/
import Derived.Test.YtnkpmgefeijffaaRows
import Derived.Test.YtnkpmgefeijffaaSimT
import Derived.Test.YtnkpmgefeijffaaSimY
import Derived.Test.YtnkpmgefeijffaaPproto6
import Derived.Test.YtnkpmgefeijffaaPnum
set_option maxRecDepth 100000
set_option maxHeartbeats 40000000
set_option linter.unusedSimpArgs false
set_option linter.unusedVariables false
namespace Go.Proofs.Ytnkpmgefeijffaa.protoLinks
open Go Go.Sim
attribute [local irreducible] chk brX getX strX setX takeX normX fillX lendX partsX opsX callK lentK lentR giveX adoptX resX joinX headX loopX seqK blkK regK finX exOps ex eqT
attribute [local simp] setR_int setR_bool setR_zero setR_succ repl_int repl_bool List.getElem?_cons_zero List.getElem?_cons_succ List.getElem?_nil w_i64 w_u64 w_u8 bAnd_u8 bOr_u8 bXor_u8 bAndNot_u8 bShl_u8 wrap_u8_range all_plain_int all_plain_bool all_plain_app pl_bool pl_int pl_str pl_nilp pl_nsl pl_nilI pl_nilF take_map_len AV.cells TI.isAgg

attribute [local simp] Ev.flen Ev.rd Ev.g0 Ev.g1 Ev.g2 Ev.g3 Ev.g4 Ev.g5 Ev.g6 Ev.put Ev.pute Ev.s0 Ev.s1 Ev.s2 Ev.s3 Ev.s4 Ev.s5 Ev.s6 Ev.zero Ev.enc
attribute [local simp] PS.len rep_len
def setE (to' fr : Int) (on : Bool) : Ev := ⟨10, 3, if on then 97 else 96, 88 + to', 80 + fr, 0, 0⟩
def getE (to' : Int) : Ev := ⟨10, 2, 98, 88 + to', 0, 0, 0⟩
def SL (to' fr : Int) (on : Bool) : PS := ⟨upd startM to' fr on, false, false, false, false, 100, hears (upd startM to' fr on) 0 1⟩
def SX (to' fr : Int) (on : Bool) : List Int := [27, 59, 99, 88 + to', stat (upd startM to' fr on) to']
theorem to_code {x : Int} (h0 : 0 ≤ x) (h1 : x < 4) : toI (88 + x) = (x, true) := by
  unfold toI
  rw [if_pos (by omega)]
  congr 1
  omega
theorem from_code {x : Int} (h0 : 0 ≤ x) (h1 : x < 4) : fromI (80 + x) = (x, true) := by
  unfold fromI
  rw [if_pos (by omega)]
  congr 1
  omega
theorem code_code {x : Int} (h0 : 0 ≤ x) (h1 : x < 4) : codeI x true = 88 + x := by
  unfold codeI in4
  rw [if_pos (by rw [decide_eq_true_eq]; omega), if_pos rfl]
theorem third_set (s : PS) {to' fr : Int} (on : Bool) (h0 : 0 ≤ to') (h1 : to' < 4) (h2 : 0 ≤ fr) (h3 : fr < 4) :
    askF s (setE to' fr on) = (⟨upd s.m to' fr on, s.roll, s.lower, s.ext, s.c0, s.speed, hears (upd s.m to' fr on) 0 1⟩, [27, 59, 99, 88 + to', stat (upd s.m to' fr on) to']) := by
  have e : askF s (setE to' fr on) = withEcho (thirdF s (if on then 97 else 96) (88 + to') (80 + fr)) := rfl
  rw [e]
  unfold thirdF
  rw [to_code h0 h1, from_code h2 h3, if_pos (by cases on <;> decide), if_pos ⟨rfl, rfl⟩]
  have e2 : decide ((if on = true then (97 : Int) else 96) = 97) = on := by cases on <;> rfl
  simp only [e2, withEcho, linkL, code_code h0 h1]
theorem second_get (s : PS) {to' : Int} (h0 : 0 ≤ to') (h1 : to' < 4) :
    askF s (getE to') = (⟨s.m, s.roll, s.lower, s.ext, s.c0, s.speed, hears s.m 0 1⟩, [27, 59, 99, 88 + to', stat s.m to']) := by
  have e : askF s (getE to') = withEcho (secondF s 98 (88 + to')) := rfl
  rw [e]
  unfold secondF
  rw [to_code h0 h1, if_neg (by decide), if_neg (by decide), if_pos rfl, if_pos rfl]
  simp only [withEcho, linkL, code_code h0 h1]
theorem upd_twice (m : Nat → Bool) (to' fr : Int) (on : Bool) : upd (upd m to' fr on) to' fr on = upd m to' fr on := by
  funext j
  unfold upd
  split <;> rfl
theorem hears_upd (m : Nat → Bool) {to' fr : Int} (on : Bool) (h0 : 0 ≤ to') (h1 : to' < 4) (h2 : 0 ≤ fr) (h3 : fr < 4) : hears (upd m to' fr on) to' fr = if (!decide (to' = fr) && decide (0 < fr)) = true then on else hears m to' fr := by
  have i1 : in4 to' = true := decide_eq_true (by omega)
  have i2 : in4 fr = true := decide_eq_true (by omega)
  have hm : maySet to' fr = (!decide (to' = fr) && decide (0 < fr)) := by
    unfold maySet
    rw [i1, i2]
    by_cases a : to' = fr
    · simp [a]
    · have : decide (fr = 0) = !decide (0 < fr) := by
        by_cases b : fr = 0
        · simp [b]
        · rw [decide_eq_false b, decide_eq_true (by omega)]; rfl
      rw [this]; simp
  unfold hears upd
  rw [i1, i2, hm]
  simp
theorem main (to0 fr0 : Int) (on again : Bool) : callω L T 5 0 [.int .i64 to0, .int .i64 fr0, .bool on, .bool again] [none, none, none, none] = some (.bool true, [none, none, none, none]) := by
  rw [call_ex (show T 5 = some (.code a5) from rfl) rfl rfl]
  have tn1 := t_Number (0 + 1) to0 4 (by omega) (by omega)
  have tn2 := t_Number (0 + 1) fr0 4 (by omega) (by omega)
  obtain ⟨to', ht, a0, a1⟩ : ∃ t : Int, to0 % 4 = t ∧ 0 ≤ t ∧ t < 4 := ⟨_, rfl, by omega, by omega⟩
  obtain ⟨fr, hf, b0, b1⟩ : ∃ t : Int, fr0 % 4 = t ∧ 0 ≤ t ∧ t < 4 := ⟨_, rfl, by omega, by omega⟩
  rw [ht] at tn1
  rw [hf] at tn2
  have ta := t_proto_Ask (0 + 1) PS.start (setE to' fr on)
  rw [third_set PS.start on a0 a1 b0 b1] at ta
  have tg := t_proto_Ask (0 + 1) (SL to' fr on) (getE to')
  rw [second_get (SL to' fr on) a0 a1] at tg
  have tb := t_proto_Ask (0 + 1) (SL to' fr on) (setE to' fr on)
  rw [third_set (SL to' fr on) on a0 a1 b0 b1] at tb
  simp only [SL, upd_twice] at tb tg
  simp only [PS.start] at ta
  have w1 : IntKind.i64.wrap (88 + to') = 88 + to' := w_i64 (by omega) (by omega)
  have w2 : IntKind.i64.wrap (80 + fr) = 80 + fr := w_i64 (by omega) (by omega)
  have hS := hears_upd startM on a0 a1 b0 b1
  simp only [setE, getE, Ev.enc] at ta tg tb
  obtain ⟨hm, hme⟩ : ∃ h, hears startM to' fr = h := ⟨_, rfl⟩
  obtain ⟨e, he⟩ : ∃ e, hears (upd startM to' fr on) 0 1 = e := ⟨_, rfl⟩
  rw [he] at ta tg tb
  have th0 := t_matrix_Hears (0 + 1) (lst startM) rfl to' fr
  rw [hears_lst, hme] at th0
  rw [hme] at hS
  have th1 := t_matrix_Hears (0 + 1) (lst (upd startM to' fr on)) rfl to' fr
  rw [hears_lst, hS] at th1
  have th2 := t_matrix_Hears (0 + 1) (lst (upd startM to' fr on)) rfl 0 1
  rw [hears_lst, he] at th2
  have ts := t_matrix_Status (0 + 1) (lst (upd startM to' fr on)) rfl to'
  rw [stat_lst] at ts
  have tm := t_matrix_Start (0 + 1)
  rw [start_lst] at tm
  generalize upd startM to' fr on = m1 at *
  generalize stat m1 to' = s1 at *
  have sb := same_self (0 + 1) [27, 59, 99, 88 + to', s1] (by simp)
  have tp := t_law25_plain (0 + 1) ⟨m1, false, false, false, false, 100, e⟩
  have tq := t_law25_same (0 + 1) ⟨m1, false, false, false, false, 100, e⟩
  clear he hS
  have hst := t_proto_Start (0 + 1)
  simp only [PS.start] at hst
  have w3 : IntKind.u8.wrap (88 + to') = 88 + to' := w_u8 (by omega) (by omega)
  have w4 : 88 + to' = IntKind.u8.wrap (IntKind.i64.wrap (88 + to')) := by rw [w1, w3]
  have w5 : s1 = s1 := rfl
  have w6 : (hm == hm) = true := beq_self_eq_true hm
  have w7 : (e == e) = true := beq_self_eq_true e
  by_cases hg : (!decide (to' = fr) && decide (0 < fr)) = true
  · rw [if_pos hg] at th1
    simp only [Bool.and_eq_true, Bool.not_eq_true', decide_eq_true_eq, decide_eq_false_iff_not] at hg
    obtain ⟨hx, hy⟩ := hg
    cases on <;> cases again <;> simp only [Bool.false_eq_true, if_false, if_true] at ta tb
    all_goals
      (have fA := And.intro @PS.enc.eq_1 (And.intro @lst.eq_1 (And.intro (@List.map_cons Bool AV) (And.intro (@List.map_nil Bool AV) (And.intro @w1 (And.intro @w2 @w3))))); have c1 := fun x1 => t_law25_first x1; have c2 := hst; have c3 := tn1; have c4 := tn2; have c5 := ta; have c6 := tg; have c7 := tb; have c8 := th0; have c9 := th1; have c10 := th2; have c11 := ts; have c12 := tm; have c13 := sb; have c14 := tp; refine gox ?_; clear fA c1 c2 c3 c4 c5 c6 c7 c8 c9 c10 c11 c12 c13 c14)
      (have fA := And.intro @PS.enc.eq_1 (And.intro @lst.eq_1 (And.intro (@List.map_cons Bool AV) (And.intro (@List.map_nil Bool AV) (And.intro @w1 (And.intro @w2 @w3))))); have c1 := tq; have c2 := th2; refine gox ?_; clear fA c1 c2)
      (refine finx ?_; try with_reducible rfl)
      first | rfl | rw [w7]
  · rw [if_neg hg] at th1
    by_cases hx : to' = fr
    · cases on <;> cases again <;> simp only [Bool.false_eq_true, if_false, if_true] at ta tb
      all_goals
        (have fA := And.intro @PS.enc.eq_1 (And.intro @lst.eq_1 (And.intro (@List.map_cons Bool AV) (And.intro (@List.map_nil Bool AV) (And.intro @w1 (And.intro @w2 @w3))))); have c1 := fun x1 => t_law25_first x1; have c2 := hst; have c3 := tn1; have c4 := tn2; have c5 := ta; have c6 := tg; have c7 := tb; have c8 := th0; have c9 := th1; have c10 := th2; have c11 := ts; have c12 := tm; have c13 := sb; have c14 := tp; refine gox ?_; clear fA c1 c2 c3 c4 c5 c6 c7 c8 c9 c10 c11 c12 c13 c14)
        (have fA := And.intro @PS.enc.eq_1 (And.intro @lst.eq_1 (And.intro (@List.map_cons Bool AV) (And.intro (@List.map_nil Bool AV) (And.intro @w1 (And.intro @w2 @w3))))); have c1 := tq; have c2 := th2; refine gox ?_; clear fA c1 c2)
        (refine finx ?_; try with_reducible rfl)
        first | rfl | rw [w7]
    · have hy : ¬ 0 < fr := fun hy => hg (by rw [decide_eq_false hx, decide_eq_true hy]; rfl)
      clear hg
      cases on <;> cases again <;> simp only [Bool.false_eq_true, if_false, if_true] at ta tb
      all_goals
        (have fA := And.intro @PS.enc.eq_1 (And.intro @lst.eq_1 (And.intro (@List.map_cons Bool AV) (And.intro (@List.map_nil Bool AV) (And.intro @w1 (And.intro @w2 @w3))))); have c1 := fun x1 => t_law25_first x1; have c2 := hst; have c3 := tn1; have c4 := tn2; have c5 := ta; have c6 := tg; have c7 := tb; have c8 := th0; have c9 := th1; have c10 := th2; have c11 := ts; have c12 := tm; have c13 := sb; have c14 := tp; refine gox ?_; clear fA c1 c2 c3 c4 c5 c6 c7 c8 c9 c10 c11 c12 c13 c14)
        (have fA := And.intro @PS.enc.eq_1 (And.intro @lst.eq_1 (And.intro (@List.map_cons Bool AV) (And.intro (@List.map_nil Bool AV) (And.intro @w1 (And.intro @w2 @w3))))); have c1 := tq; have c2 := th2; refine gox ?_; clear fA c1 c2)
        (refine finx ?_; try with_reducible rfl)
        first | rfl | rw [w7]
theorem law (cs : List AV) (h : ShpAll L 5 Try.f5.params.toList cs) : ∃ lent, callω L T 5 0 cs (List.replicate Try.f5.params.toList.length none) = some (.bool true, lent) := by
  rw [Try.params5] at h
  obtain ⟨to', _, rfl, _, h1⟩ := shpAll_int rfl h
  obtain ⟨fr, _, rfl, _, h2⟩ := shpAll_int rfl h1
  obtain ⟨on, _, rfl, h3⟩ := shpAll_bool rfl h2
  obtain ⟨again, _, rfl, h4⟩ := shpAll_bool rfl h3
  obtain rfl := shpAll_nil h4
  exact ⟨_, main to' fr on again⟩

open Go.ChangeShapes Go.WideShapes Go.ChangeAt Go.RowKit
theorem lifted (os : Os) (started : os.Started) (H : Type) (enc : TypeId × Value → H) :
    ReturnsInHanded {} Try.checked os 5 .any (Rows.protoLinksSpec.pre6 enc Try.prog Try.f5 Rows.protoLinksRow.domain false) (Rows.protoLinksSpec.post enc Try.prog Try.f5 false true false false) := by
  refine law_lift (C := Try.checked) (n := 5) own started (by kernel_rfl) Try.func5 L_ok T_ok (show T 5 = some (.code a5) from rfl) laid (by kernel_rfl) rfl Try.underlying4 rfl ?_ law
    (ChangeSpec.witness6 (enc := enc) (C := Try.checked) false ⟨#[], #[.int .i64 0, .int .i64 0, .bool false, .bool false], []⟩ 8 (by kernel_rfl) (by kernel_rfl) (by kernel_rfl) (by kernel_rfl))
  intro H ds hl
  rw [Try.params5] at hl
  match ds, hl with
  | [d1, d2, d3, d4], _ => rfl

theorem over : Rows.protoLinksRow.holds Try.pinned (OpenSpec.ofChange Rows.protoLinksSpec) :=
  OpenClaim.holds_of_wide 5 Try.f5 rfl rfl rfl rfl rfl rfl rfl ⟨rfl, rfl, rfl, rfl, rfl⟩ rfl rfl rfl rfl rfl (by kernel_rfl) Try.func5 (by kernel_rfl)
    (of_decide_eq_true (by kernel_rfl)) (by unfold Func.isWrapper; first | (rw [if_pos (by decide +kernel)]; kernel_rfl) | (rw [if_neg (by decide +kernel)]; exact ⟨rfl, rfl⟩))
    (fun os started H enc _ => lifted os started H enc)

theorem proved : Rows.ProtoLinksSaid :=
  over
#print axioms proved
end Go.Proofs.Ytnkpmgefeijffaa.protoLinks
