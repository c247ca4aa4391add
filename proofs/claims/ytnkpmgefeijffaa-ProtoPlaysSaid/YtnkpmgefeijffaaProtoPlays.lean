/- ProtoPlays: whatever is asked, one by one: the state behind each, each answer, are what the chapter says. No condition. -/
import Derived.Test.YtnkpmgefeijffaaRows
import Derived.Test.YtnkpmgefeijffaaSimT
import Derived.Test.YtnkpmgefeijffaaSimY
import Derived.Test.YtnkpmgefeijffaaPproto9
set_option maxRecDepth 100000
set_option maxHeartbeats 40000000
set_option linter.unusedSimpArgs false
set_option linter.unusedVariables false
namespace Go.Proofs.Ytnkpmgefeijffaa.protoPlays
open Go Go.Sim
attribute [local irreducible] chk brX getX strX setX takeX normX fillX lendX partsX opsX callK lentK giveX adoptX resX joinX headX loopX seqK blkK regK finX exOps ex eqT
attribute [local simp] setR_int setR_bool setR_zero setR_succ repl_int repl_bool List.getElem?_cons_zero List.getElem?_cons_succ List.getElem?_nil w_i64 w_u64 w_u8 bAnd_u8 bOr_u8 bXor_u8 bAndNot_u8 bShl_u8 wrap_u8_range all_plain_int all_plain_bool all_plain_app pl_bool pl_int pl_str pl_nilp pl_nsl pl_nilI pl_nilF take_map_len AV.cells TI.isAgg

attribute [local simp] Ev.flen Ev.rd Ev.g0 Ev.g1 Ev.g2 Ev.g3 Ev.g4 Ev.g5 Ev.g6 Ev.put Ev.pute Ev.s0 Ev.s1 Ev.s2 Ev.s3 Ev.s4 Ev.s5 Ev.s6 Ev.zero Ev.enc
attribute [local simp] PS.len rep_len
theorem first_short (s : PS) (b : Int) : (firstF s b).2.length < 1000 := by
  unfold firstF
  (repeat' split) <;> simp
theorem second_short (s : PS) (b c : Int) : (secondF s b c).2.length < 1000 := by
  unfold secondF linkL
  (repeat' split) <;> simp
theorem third_short (s : PS) (b c d : Int) : (thirdF s b c d).2.length < 1000 := by
  unfold thirdF linkL
  (repeat' split) <;> simp
theorem ask_short (s : PS) (e : Ev) : (askF s e).2.length < 1000 := by
  by_cases h1 : e.kind = 10
  · rw [show askF s e = withEcho (if e.a = 1 then firstF s e.b else if e.a = 2 then secondF s e.b e.c else if e.a = 3 then thirdF s e.b e.c e.d else (s, [])) from if_pos h1]
    show (if e.a = 1 then firstF s e.b else if e.a = 2 then secondF s e.b e.c else if e.a = 3 then thirdF s e.b e.c e.d else (s, [])).2.length < 1000
    by_cases a1 : e.a = 1
    · rw [if_pos a1]; exact first_short _ _
    · rw [if_neg a1]
      by_cases a2 : e.a = 2
      · rw [if_pos a2]; exact second_short _ _ _
      · rw [if_neg a2]
        by_cases a3 : e.a = 3
        · rw [if_pos a3]; exact third_short _ _ _ _
        · rw [if_neg a3]; simp
  · rw [show askF s e = (s, []) from if_neg h1]; simp
attribute [local irreducible] askF
theorem main (l : List Ev) : callω L T 3 0 [.isl 7 l.length (flat Ev.enc l)] [none] = some (.bool true, [none]) := by
  rw [call_ex (show T 3 = some (.code a3) from rfl) rfl rfl]
  by_cases h1 : 60 < l.length
  · (have c1 := fun x1 => t_law25_first x1; refine gox ?_; clear c1)
    (refine finx ?_; try with_reducible rfl)
    try rfl
  have tp0 := t_law25_plain (0 + 1) PS.start
  have tq0 := t_law25_same (0 + 1) PS.start
  (have c1 := fun x1 => t_law25_first x1; have c2 := fun x1 => t_proto_Start x1; have c3 := fun x1 => t_ref20_Start x1; have c4 := tp0; have c5 := tq0; refine gox ?_; clear c1 c2 c3 c4 c5)
  refine Eq.trans (head_eq (env' := [(0, .isl 7 l.length (flat Ev.enc l)), (3, .bool true), (4, .ref 4 (0, 1) 0), (5, .ref 5 (0, 1 + 1) 0), (6, .int .i64 ((0 : Nat) : Int))]) (heap' := [(4, ⟨(0, 1), PS.start.enc⟩), (5, ⟨(0, 1 + 1), PS.start.enc⟩)]) rfl rfl rfl) ?_
  refine headX_fold (fun (_ : Nat) (_ : PS × Nat) => True) (fun k (x : PS × Nat) => ⟨[(0, .isl 7 l.length (flat Ev.enc l)), (3, .bool true), (4, .ref 4 (0, 1) 0), (5, .ref 5 (0, 1 + 1) 0), (6, .int .i64 k)], [(4, ⟨(0, 1), x.1.enc⟩), (5, ⟨(0, 1 + 1), x.1.enc⟩)], x.2, 0⟩) l (fun _ _ => some (.bool true, [none])) ?_ ?_ (PS.start, 1 + 1 + 1) trivial
  · rintro k ⟨s, nx⟩ hk - ih
    have ta := t_proto_Ask (0 + 1) s l[k]
    have tb := t_ref20_Ask (0 + 1) s l[k]
    have hlen : (askF s l[k]).2.length < 1000 := ask_short s l[k]
    generalize askF s l[k] = p at ta tb hlen
    have tp := t_law25_plain (0 + 1) p.1
    have tq := t_law25_same (0 + 1) p.1
    have tm := t_Modes (0 + 1) p.1
    have tm2 := t_ref20_Modes (0 + 1) p.1
    have tbd := t_Board (0 + 1) p.1
    have tbd2 := t_ref20_Board (0 + 1) p.1
    have ts := t_SameBytes (0 + 1) p.2 p.2 (by omega)
    rw [decide_eq_true rfl] at ts
    unfold ansAV at ta tb
    dsimp only at ih ⊢
    refine Eq.trans ?_ (ih (p.1, nx + 1 + 1) trivial)
    (have fA := And.intro @PS.enc.eq_1 @Ev.rd; have c1 := ta; have c2 := tb; have c3 := tp; have c4 := tq; have c5 := tm; have c6 := tm2; have c7 := tbd; have c8 := tbd2; have c9 := ts; refine gox ?_; clear fA c1 c2 c3 c4 c5 c6 c7 c8 c9)
    refine head_eq ?_ rfl rfl
    simp [wrap_succ hk (by omega)]
  · rintro ⟨s, nx⟩ -
    (refine gox ?_)
    (refine finx ?_; try with_reducible rfl)
    try rfl
theorem law (cs : List AV) (h : ShpAll L 5 Try.f3.params.toList cs) : ∃ lent, callω L T 3 0 cs (List.replicate Try.f3.params.toList.length none) = some (.bool true, lent) := by
  rw [Try.params3] at h
  obtain ⟨p1, _, rfl, _, hp1, hb⟩ := shpAll_slice rfl rfl h
  obtain rfl := shpAll_nil hb
  obtain ⟨l, e1, e2, _⟩ := Ev.parts rfl rfl p1 hp1
  rw [e1, ← e2]
  exact ⟨_, main l⟩

open Go.ChangeShapes Go.WideShapes Go.ChangeAt Go.RowKit
theorem lifted (os : Os) (started : os.Started) (H : Type) (enc : TypeId × Value → H) :
    ReturnsInHanded {} Try.checked os 3 .any (Rows.protoPlaysSpec.pre6 enc Try.prog Try.f3 Rows.protoPlaysRow.domain false) (Rows.protoPlaysSpec.post enc Try.prog Try.f3 false true false false) := by
  refine law_lift (C := Try.checked) (n := 5) own started (by kernel_rfl) Try.func3 L_ok T_ok (show T 3 = some (.code a3) from rfl) laid (by kernel_rfl) rfl Try.underlying4 rfl ?_ law
    (ChangeSpec.witness6 (enc := enc) (C := Try.checked) false ⟨#[], #[.slice none 0 0], []⟩ 8 (by kernel_rfl) (by kernel_rfl) (by kernel_rfl) (by kernel_rfl))
  intro H ds hl
  rw [Try.params3] at hl
  match ds, hl with
  | [d1], _ => rfl

theorem over : Rows.protoPlaysRow.holds Try.pinned (OpenSpec.ofChange Rows.protoPlaysSpec) :=
  OpenClaim.holds_of_wide 3 Try.f3 rfl rfl rfl rfl rfl rfl rfl ⟨rfl, rfl, rfl, rfl, rfl⟩ rfl rfl rfl rfl rfl (by kernel_rfl) Try.func3 (by kernel_rfl)
    (of_decide_eq_true (by kernel_rfl)) (by unfold Func.isWrapper; first | (rw [if_pos (by decide +kernel)]; kernel_rfl) | (rw [if_neg (by decide +kernel)]; exact ⟨rfl, rfl⟩))
    (fun os started H enc _ => lifted os started H enc)

theorem proved : Rows.ProtoPlaysSaid :=
  over
#print axioms proved
end Go.Proofs.Ytnkpmgefeijffaa.protoPlays
