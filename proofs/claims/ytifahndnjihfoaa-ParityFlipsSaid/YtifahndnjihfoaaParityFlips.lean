/- ParityFlips: for every byte and all numbers the law returns true. No condition. -/
import Derived.Test.YtifahndnjihfoaaSimP
namespace Go.Proofs.Ytifahndnjihfoaa.parityFlips
open Go.Sim Go.ChangeShapes Go.WideShapes Go.ChangeAt Go.RowKit
set_option linter.unusedVariables false
set_option maxRecDepth 100000

theorem law (cs : List AV) (h : ShpAll L 3 Try.f4.params.toList cs) : ∃ lent, callω L T 4 [] cs (List.replicate Try.f4.params.toList.length none) = some (.bool true, lent) := by
  rw [Try.params4] at h
  obtain ⟨x, _, rfl, hx, h⟩ := shpAll_int rfl h
  obtain ⟨i, _, rfl, _, h⟩ := shpAll_int rfl h
  obtain ⟨k, _, rfl, _, h⟩ := shpAll_int rfl h
  obtain rfl := shpAll_nil h
  obtain ⟨n, rfl, hn⟩ := u8_wf hx
  exact ⟨_, law4 n i k (by omega) (by omega)⟩

theorem lifted (os : Os) (started : os.Started) (H : Type) (enc : TypeId × Value → H) :
    ReturnsInHanded {} Try.checked os 4 .any (Rows.parityFlipsSpec.pre6 enc Try.prog Try.f4 Rows.parityFlipsRow.domain false) (Rows.parityFlipsSpec.post enc Try.prog Try.f4 false true false false) := by
  refine law_lift (C := Try.checked) (n := 3) own started (by kernel_rfl) Try.func4 L_ok T_ok (show T 4 = some (.code a4) from rfl) laid (by kernel_rfl) rfl Try.underlying4 rfl ?_ law
    (ChangeSpec.witness6 (enc := enc) (C := Try.checked) false ⟨#[], #[.int .u8 0, .int .i64 0, .int .i64 0], []⟩ 8 (by kernel_rfl) (by kernel_rfl) (by kernel_rfl) (by kernel_rfl))
  intro H ds hl
  rw [Try.params4] at hl
  match ds, hl with
  | [d1, d2, d3], _ => rfl

theorem over : Rows.parityFlipsRow.holds Try.pinned (OpenSpec.ofChange Rows.parityFlipsSpec) :=
  OpenClaim.holds_of_wide 4 Try.f4 rfl rfl rfl rfl rfl rfl rfl ⟨rfl, rfl, rfl, rfl, rfl⟩ rfl rfl rfl rfl rfl (by kernel_rfl) Try.func4 (by kernel_rfl)
    (of_decide_eq_true (by kernel_rfl)) (by unfold Func.isWrapper; first | (rw [if_pos (by decide +kernel)]; kernel_rfl) | (rw [if_neg (by decide +kernel)]; exact ⟨rfl, rfl⟩))
    (fun os started H enc _ => lifted os started H enc)

theorem proved : Rows.ParityFlipsSaid :=
  over
#print axioms proved
end Go.Proofs.Ytifahndnjihfoaa.parityFlips
