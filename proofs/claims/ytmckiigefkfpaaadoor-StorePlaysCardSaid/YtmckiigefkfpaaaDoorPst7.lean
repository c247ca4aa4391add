/- Functions of the seat, worked off from their code: chunk st7. Written by program (tools/mkp.py) from wip/fn. -/
import Derived.Test.YtmckiigefkfpaaaDoorSimT
import Derived.Test.YtmckiigefkfpaaaDoorSimY
import Derived.Test.YtmckiigefkfpaaaDoorPnum
import Derived.Test.YtmckiigefkfpaaaDoorPst5iS
set_option maxRecDepth 100000
set_option maxHeartbeats 40000000
set_option linter.unusedSimpArgs false
set_option linter.unusedVariables false
namespace Go.Proofs.YtmckiigefkfpaaaDoor
open Go Go.Sim
attribute [local irreducible] chk brX hX finH keyX visit packed backPk backOk backHeap stays getAll getX strX setX takeX normX fillX lendX partsX opsX callK lentK lentR giveX adoptX resX joinX headX loopX seqK blkK regK finX exOps ex eqT
attribute [local simp] setR_int setR_bool setR_zero setR_succ repl_int repl_bool List.getElem?_cons_zero List.getElem?_cons_succ List.getElem?_nil w_i64 w_u64 w_u8 bAnd_u8 bOr_u8 bXor_u8 bAndNot_u8 bShl_u8 wrap_u8_range all_plain_int all_plain_bool all_plain_app pl_bool pl_int pl_str pl_nilp pl_nsl pl_nilI pl_nilF take_map_len AV.cells TI.isAgg
theorem first_ok (tag : Nat) : callω L T 7 tag [] [] = some (.bool true, []) := by
  rw [call_ex (show T 7 = some (.code a7) from rfl) rfl rfl]
  (have c1 := fun x1 => new_iS x1 1 (by omega) (by omega); have c2 := fun x1 => lenN_iS x1 1 0 false; refine gox ?_; clear c1 c2)
  (refine finx ?_; try with_reducible rfl)
  rfl

end Go.Proofs.YtmckiigefkfpaaaDoor
