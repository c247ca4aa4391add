/- Functions of the seat, worked off from their code: chunk num. Written by program (tools/mkp.py) from wip/fn. -/
import Derived.Test.YtmckiigefkfpaaaDoorSimT
import Derived.Test.YtmckiigefkfpaaaDoorSimY

set_option maxRecDepth 100000
set_option maxHeartbeats 40000000
set_option linter.unusedSimpArgs false
set_option linter.unusedVariables false
namespace Go.Proofs.YtmckiigefkfpaaaDoor
open Go Go.Sim
attribute [local irreducible] chk brX getX strX setX takeX normX fillX lendX partsX opsX callK lentK lentR giveX adoptX resX joinX headX loopX seqK blkK regK finX exOps ex eqT
attribute [local simp] setR_int setR_bool setR_zero setR_succ repl_int repl_bool List.getElem?_cons_zero List.getElem?_cons_succ List.getElem?_nil w_i64 w_u64 w_u8 bAnd_u8 bOr_u8 bXor_u8 bAndNot_u8 bShl_u8 wrap_u8_range all_plain_int all_plain_bool all_plain_app pl_bool pl_int pl_str pl_nilp pl_nsl pl_nilI pl_nilF take_map_len AV.cells TI.isAgg
theorem t_Number (tag : Nat) (n b : Int) (hb : 0 < b) (hb' : b < 1000000) : callω L T 9 tag [.int .i64 n, .int .i64 b] [none, none] = some (.int .i64 (n % b), [none, none]) := by
  rw [call_ex (show T 9 = some (.code a9) from rfl) rfl rfl]
  have h0 : b ≠ 0 := by omega
  have h1 : (n.tmod b < 0 → IntKind.i64.wrap (n.tmod b + b) = n % b) ∧ (¬ n.tmod b < 0 → n.tmod b = n % b) := by
    have q1 := Int.emod_nonneg n h0
    have q2 := Int.emod_lt_of_pos n hb
    have q3 : n.tmod b = if 0 ≤ n ∨ b ∣ n then n % b else n % b - b := by
      rw [Int.tmod_eq_emod]
      have : (b.natAbs : Int) = b := by omega
      split <;> simp [this]
    split at q3
    · exact ⟨fun h => by omega, fun _ => q3⟩
    · exact ⟨fun h => by rw [q3, w_i64 (by omega) (by omega)]; omega, fun h => by omega⟩
  by_cases hn : n.tmod b < 0
  · (refine gox ?_)
    (refine finx ?_; try with_reducible rfl)
    rw [h1.1 hn]
  · (refine gox ?_)
    (refine finx ?_; try with_reducible rfl)
    rw [h1.2 hn]

end Go.Proofs.YtmckiigefkfpaaaDoor
