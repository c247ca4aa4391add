/- ParityTurns: the row. -/
import Derived.Test.YtifahndnjihfoaaSimP
namespace Go.Proofs.Ytifahndnjihfoaa.parityTurns
open Go.Sim Go.ChangeShapes Go.WideShapes Go.ChangeAt Go.RowKit
set_option linter.unusedVariables false
set_option maxRecDepth 100000

theorem law (cs : List AV) (h : ShpAll L 3 Try.f3.params.toList cs) : ∃ lent, callω L T 3 [] cs (List.replicate Try.f3.params.toList.length none) = some (.bool true, lent) := by
  rw [Try.params3] at h
  obtain ⟨x, _, rfl, hx, h⟩ := shpAll_int rfl h
  obtain ⟨y, _, rfl, hy, h⟩ := shpAll_int rfl h
  obtain rfl := shpAll_nil h
  obtain ⟨n, rfl, hn⟩ := u8_wf hx
  obtain ⟨m, rfl, hm⟩ := u8_wf hy
  exact ⟨_, law3 n m (by omega) (by omega) (by omega) (by omega)⟩

theorem lifted (os : Os) (started : os.Started) (H : Type) (enc : TypeId × Value → H) :
    ReturnsInHanded {} Try.checked os 3 .any (Rows.parityTurnsSpec.pre6 enc Try.prog Try.f3 Rows.parityTurnsRow.domain false) (Rows.parityTurnsSpec.post enc Try.prog Try.f3 false true false false) := by
  refine law_lift (C := Try.checked) (n := 3) own started (by kernel_rfl) Try.func3 L_ok T_ok (show T 3 = some (.code a3) from rfl) laid (by kernel_rfl) rfl Try.underlying4 rfl ?_ law
    (ChangeSpec.witness6 (enc := enc) (C := Try.checked) false ⟨#[], #[.int .u8 0, .int .u8 0], []⟩ 8 (by kernel_rfl) (by kernel_rfl) (by kernel_rfl) (by kernel_rfl))
  intro H ds hl
  rw [Try.params3] at hl
  match ds, hl with
  | [d1, d2], _ => rfl

theorem over : Rows.parityTurnsRow.holds Try.pinned (OpenSpec.ofChange Rows.parityTurnsSpec) :=
  OpenClaim.holds_of_wide 3 Try.f3 rfl rfl rfl rfl rfl rfl rfl ⟨rfl, rfl, rfl, rfl, rfl⟩ rfl rfl rfl rfl rfl (by kernel_rfl) Try.func3 (by kernel_rfl)
    (of_decide_eq_true (by kernel_rfl)) (by unfold Func.isWrapper; first | (rw [if_pos (by decide +kernel)]; kernel_rfl) | (rw [if_neg (by decide +kernel)]; exact ⟨rfl, rfl⟩))
    (fun os started H enc _ => lifted os started H enc)

theorem proved : Rows.ParityTurnsSaid :=
  over
#print axioms proved
end Go.Proofs.Ytifahndnjihfoaa.parityTurns
