/- PageMerges: what any row and any bytes become is what the chapter says. No condition. -/
import Derived.Test.YtimcmpceekbfjaaRows
import Derived.Test.YtimcmpceekbfjaaSimT
import Derived.Test.YtimcmpceekbfjaaSimY
import Derived.Test.YtimcmpceekbfjaaPpage4
set_option maxRecDepth 100000
set_option maxHeartbeats 40000000
set_option linter.unusedSimpArgs false
set_option linter.unusedVariables false
namespace Go.Proofs.Ytimcmpceekbfjaa.pageMerges
open Go Go.Sim
attribute [local irreducible] chk brX getX strX setX takeX normX fillX lendX partsX opsX callK lentK giveX adoptX resX joinX headX loopX seqK blkK regK finX exOps ex eqT
attribute [local simp] setR_int setR_bool setR_zero setR_succ repl_int repl_bool List.getElem?_cons_zero List.getElem?_cons_succ List.getElem?_nil w_i64 w_u64 w_u8 bAnd_u8 bOr_u8 bXor_u8 bAndNot_u8 bShl_u8 wrap_u8_range all_plain_int all_plain_bool all_plain_app pl_bool pl_int pl_str pl_nilp pl_nsl pl_nilI pl_nilF take_map_len AV.cells TI.isAgg

theorem main (old data : List Int) (had : Bool) (ho : old.length = 40) (hb : ∀ x ∈ data, 0 ≤ x ∧ x < 256) : callω L T 3 0 [.agg (old.map (.int .u8)), .isl 1 data.length (data.map (.int .u8)), .bool had] [none, none, none] = some (.bool true, [none, none, none]) := by
  rw [call_ex (show T 3 = some (.code a3) from rfl) rfl rfl]
  by_cases h1 : 60 < data.length
  · (have c1 := fun x1 => t_law12_first x1; refine gox ?_; clear c1)
    (refine finx ?_; try with_reducible rfl)
    try rfl
  have t1 := t_Merge (0 + 1) old data had ho (by omega) hb
  have t2 := t_r12_Merge (0 + 1) old data had ho (by omega) hb
  have lm := mrg_len old data had
  have ts := t_SameBytes (0 + 1) (mrg old data had) (mrg old data had) (by omega)
  rw [decide_eq_true rfl, lm] at ts
  generalize mrg old data had = m at *
  have tko : (old.map (AV.int .u8)).take 40 = old.map (.int .u8) := List.take_of_length_le (by simp [ho])
  have lo : (old.map (AV.int .u8)).length = 40 := by simp [ho]
  have l2 : (m.map (AV.int .u8)).length = 40 := by simp [lm]
  have tk : (m.map (AV.int .u8)).take 40 = m.map (AV.int .u8) := List.take_of_length_le (by omega)
  generalize m.map (AV.int .u8) = mm at *
  have hst : setR (List.map (AV.int .u8) (List.replicate 40 0)) 0 mm = mm := setR_all (by simp [l2])
  (have fA := And.intro @l2 (And.intro @tk (And.intro @hst (And.intro @tko (And.intro @lo (@List.drop_zero AV))))); have c1 := fun x1 => t_law12_first x1; have c2 := t1; have c3 := t2; have c4 := ts; refine gox ?_; clear fA c1 c2 c3 c4)
  (refine finx ?_; try with_reducible rfl)
  try rfl
theorem law (cs : List AV) (h : ShpAll L 5 Try.f3.params.toList cs) : ∃ lent, callω L T 3 0 cs (List.replicate Try.f3.params.toList.length none) = some (.bool true, lent) := by
  rw [Try.params3] at h
  obtain ⟨p1, _, rfl, hl1, hp1, ha⟩ := shpAll_arr rfl h
  obtain ⟨p2, _, rfl, _, hp2, hb⟩ := shpAll_slice rfl rfl ha
  obtain ⟨b, _, rfl, hc⟩ := shpAll_bool rfl hb
  obtain rfl := shpAll_nil hc
  obtain ⟨xs, e1, e2, _⟩ := ints_of_parts (n := 3) rfl p1 hp1
  obtain ⟨ys, e3, e4, e5⟩ := ints_of_parts (n := 3) rfl p2 hp2
  rw [e1, e3, ← e4]
  exact ⟨_, main xs ys b (by omega) (fun x hx => by obtain ⟨m, rfl, hm⟩ := u8_wf (e5 x hx); omega)⟩

open Go.ChangeShapes Go.WideShapes Go.ChangeAt Go.RowKit
theorem lifted (os : Os) (started : os.Started) (H : Type) (enc : TypeId × Value → H) :
    ReturnsInHanded {} Try.checked os 3 .any (Rows.pageMergesSpec.pre6 enc Try.prog Try.f3 Rows.pageMergesRow.domain false) (Rows.pageMergesSpec.post enc Try.prog Try.f3 false true false false) := by
  refine law_lift (C := Try.checked) (n := 5) own started (by kernel_rfl) Try.func3 L_ok T_ok (show T 3 = some (.code a3) from rfl) laid (by kernel_rfl) rfl Try.underlying4 rfl ?_ law
    (ChangeSpec.witness6 (enc := enc) (C := Try.checked) false ⟨#[], #[.agg (List.replicate 40 (Value.int .u8 0)).toArray, .slice none 0 0, .bool false], []⟩ 8 (by kernel_rfl) (by kernel_rfl) (by kernel_rfl) (by kernel_rfl))
  intro H ds hl
  rw [Try.params3] at hl
  match ds, hl with
  | [d1, d2, d3], _ => rfl

theorem over : Rows.pageMergesRow.holds Try.pinned (OpenSpec.ofChange Rows.pageMergesSpec) :=
  OpenClaim.holds_of_wide 3 Try.f3 rfl rfl rfl rfl rfl rfl rfl ⟨rfl, rfl, rfl, rfl, rfl⟩ rfl rfl rfl rfl rfl (by kernel_rfl) Try.func3 (by kernel_rfl)
    (of_decide_eq_true (by kernel_rfl)) (by unfold Func.isWrapper; first | (rw [if_pos (by decide +kernel)]; kernel_rfl) | (rw [if_neg (by decide +kernel)]; exact ⟨rfl, rfl⟩))
    (fun os started H enc _ => lifted os started H enc)

theorem proved : Rows.PageMergesSaid :=
  over
#print axioms proved
end Go.Proofs.Ytimcmpceekbfjaa.pageMerges
