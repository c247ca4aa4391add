/- AttrSays: what any byte does in any state, its cell, any row's cells, whether one is tall, are what the chapter says. No condition. -/
import Derived.Test.YtaohdpebkongmaaRows
import Derived.Test.YtaohdpebkongmaaSimT
import Derived.Test.YtaohdpebkongmaaSimY
import Derived.Test.YtaohdpebkongmaaPattr10
set_option maxRecDepth 100000
set_option maxHeartbeats 40000000
set_option linter.unusedSimpArgs false
set_option linter.unusedVariables false
namespace Go.Proofs.Ytaohdpebkongmaa.attrSays
open Go Go.Sim
attribute [local irreducible] chk brX getX strX setX takeX normX fillX lendX partsX opsX callK lentK giveX adoptX resX joinX headX loopX seqK blkK regK finX exOps ex
attribute [local simp] setR_int setR_bool setR_zero setR_succ repl_int repl_bool List.getElem?_cons_zero List.getElem?_cons_succ List.getElem?_nil w_i64 w_u64 w_u8 bAnd_u8 bOr_u8 bXor_u8 bAndNot_u8 bShl_u8 wrap_u8_range all_plain_int all_plain_bool all_plain_app pl_bool pl_int pl_str pl_nilp pl_nsl pl_nilI pl_nilF take_map_len AV.cells TI.isAgg

attribute [local simp] Cell.flen Cell.rd Cell.g0 Cell.g1 Cell.g2 Cell.g3 Cell.g4 Cell.g5 Cell.g6 Cell.g7 Cell.g8 Cell.g9 Cell.put Cell.pute Cell.s0 Cell.s1 Cell.s2 Cell.s3 Cell.s4 Cell.s5 Cell.s6 Cell.s7 Cell.s8 Cell.s9 Cell.zero Cell.enc At.flen At.rd At.g0 At.g1 At.g2 At.g3 At.g4 At.g5 At.g6 At.g7 At.g8 At.g9 At.g10 At.put At.pute At.s0 At.s1 At.s2 At.s3 At.s4 At.s5 At.s6 At.s7 At.s8 At.s9 At.s10 At.zero At.enc
theorem main (s : At) (c o : Int) (bs : List Int) : callω L T 3 0 [.agg s.enc, .int .u8 c, .int .i64 o, .isl 1 bs.length (bs.map (.int .u8))] [none, none, none, none] = some (.bool true, [none, none, none, none]) := by
  rw [call_ex (show T 3 = some (.code a3) from rfl) rfl rfl]
  by_cases h1 : 60 < bs.length
  · (have c1 := fun x1 => t_law15_first x1; refine gox ?_; clear c1)
    (refine finx ?_; try with_reducible rfl)
    try rfl
  have tr1 := t_Row (0 + 1) bs o (by omega)
  have tr2 := t_r12_Cells (0 + 1) bs o (by omega)
  have ts := t_SameRow (0 + 1) (rowL bs o 40) (rowL_len _ _ _)
  have l1 := row_len bs o
  have p1 := row_put bs o
  generalize flat Cell.enc (rowL bs o 40) = cx at *
  have t1 := t_Step (0 + 1) s c o
  have t2 := t_r12_Step (0 + 1) s c o
  have t3 := t_SameCell_self (0 + 1) (stepF s c o).2
  have t4 := t_law15_same (0 + 1) (stepF s c o).1
  have st : List.take 400 cx = cx := List.take_of_length_le (by omega)
  generalize (stepF s c o).1 = u at *
  generalize (stepF s c o).2 = x at *
  have be : ∀ b : Bool, (b == b) = true := by intro b; cases b <;> rfl
  have r1 := be (tallF bs o 40)
  (have fA := And.intro @At.enc.eq_1 (And.intro @Cell.enc.eq_1 (And.intro @p1 @st)); have c1 := fun x1 => t_law15_first x1; have c2 := t1; have c3 := fun x1 x2 => t_law15_plain x1 x2; have c4 := t2; have c5 := tr1; have c6 := tr2; have c7 := t4; have c8 := t3; have c9 := ts; have c10 := fun x1 => t_attr_Start x1; have c11 := fun x1 => t_r12_Start x1; have c12 := fun x1 x2 => t_law15_same x1 x2; refine gox ?_; clear fA c1 c2 c3 c4 c5 c6 c7 c8 c9 c10 c11 c12)
  (refine finx ?_; try with_reducible rfl)
  try rfl
theorem law (cs : List AV) (h : ShpAll L 5 Try.f3.params.toList cs) : ∃ lent, callω L T 3 0 cs (List.replicate Try.f3.params.toList.length none) = some (.bool true, lent) := by
  rw [Try.params3] at h
  obtain ⟨c, _, rfl, hz, ha⟩ := shpAll_strct rfl h
  obtain ⟨b, _, rfl, _, hb⟩ := shpAll_int rfl ha
  obtain ⟨o, _, rfl, _, hc⟩ := shpAll_int rfl hb
  obtain ⟨p1, _, rfl, _, hp1, hd⟩ := shpAll_slice rfl rfl hc
  obtain rfl := shpAll_nil hd
  obtain ⟨s, rfl, _⟩ := At.of hz rfl
  obtain ⟨xs, e1, e2, _⟩ := ints_of_parts (n := 3) rfl p1 hp1
  rw [e1, ← e2]
  exact ⟨_, main s b o xs⟩

open Go.ChangeShapes Go.WideShapes Go.ChangeAt Go.RowKit
theorem lifted (os : Os) (started : os.Started) (H : Type) (enc : TypeId × Value → H) :
    ReturnsInHanded {} Try.checked os 3 .any (Rows.attrSaysSpec.pre6 enc Try.prog Try.f3 Rows.attrSaysRow.domain false) (Rows.attrSaysSpec.post enc Try.prog Try.f3 false true false false) := by
  refine law_lift (C := Try.checked) (n := 5) own started (by kernel_rfl) Try.func3 L_ok T_ok (show T 3 = some (.code a3) from rfl) laid (by kernel_rfl) rfl Try.underlying4 rfl ?_ law
    (ChangeSpec.witness6 (enc := enc) (C := Try.checked) false ⟨#[], #[.agg (List.replicate 2 (Value.int .i64 0) ++ List.replicate 7 (Value.bool false) ++ List.replicate 1 (Value.int .i64 0) ++ List.replicate 1 (Value.int .u8 0)).toArray, .int .u8 0, .int .i64 0, .slice none 0 0], []⟩ 8 (by kernel_rfl) (by kernel_rfl) (by kernel_rfl) (by kernel_rfl))
  intro H ds hl
  rw [Try.params3] at hl
  match ds, hl with
  | [d1, d2, d3, d4], _ => rfl

theorem over : Rows.attrSaysRow.holds Try.pinned (OpenSpec.ofChange Rows.attrSaysSpec) :=
  OpenClaim.holds_of_wide 3 Try.f3 rfl rfl rfl rfl rfl rfl rfl ⟨rfl, rfl, rfl, rfl, rfl⟩ rfl rfl rfl rfl rfl (by kernel_rfl) Try.func3 (by kernel_rfl)
    (of_decide_eq_true (by kernel_rfl)) (by unfold Func.isWrapper; first | (rw [if_pos (by decide +kernel)]; kernel_rfl) | (rw [if_neg (by decide +kernel)]; exact ⟨rfl, rfl⟩))
    (fun os started H enc _ => lifted os started H enc)

theorem proved : Rows.AttrSaysSaid :=
  over
#print axioms proved
end Go.Proofs.Ytaohdpebkongmaa.attrSays
