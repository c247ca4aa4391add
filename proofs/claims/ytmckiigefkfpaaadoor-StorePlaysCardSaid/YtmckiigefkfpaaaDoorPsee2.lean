/- Functions of the seat, worked off from their code: chunk see2. Written by program (tools/mkp.py) from wip/fn. -/
import Derived.Test.YtmckiigefkfpaaaDoorSimT
import Derived.Test.YtmckiigefkfpaaaDoorSimY
import Derived.Test.YtmckiigefkfpaaaDoorPsee
set_option maxRecDepth 100000
set_option maxHeartbeats 40000000
set_option linter.unusedSimpArgs false
set_option linter.unusedVariables false
namespace Go.Proofs.YtmckiigefkfpaaaDoor
open Go Go.Sim
attribute [local irreducible] chk brX hX finH keyX visit packed backPk backOk backHeap stays getAll getX strX setX takeX normX fillX lendX partsX opsX callK lentK lentR giveX adoptX resX joinX headX loopX seqK blkK regK finX exOps ex eqT
attribute [local simp] setR_int setR_bool setR_zero setR_succ repl_int repl_bool List.getElem?_cons_zero List.getElem?_cons_succ List.getElem?_nil w_i64 w_u64 w_u8 bAnd_u8 bOr_u8 bXor_u8 bAndNot_u8 bShl_u8 wrap_u8_range all_plain_int all_plain_bool all_plain_app pl_bool pl_int pl_str pl_nilp pl_nsl pl_nilI pl_nilF take_map_len AV.cells TI.isAgg
theorem fault_ok (tag : Nat) : callω L T 60 tag [.err 0] [none] = some (.agg [.int .i64 101, .bool false, .int .i64 0], [none]) := by
  rw [call_ex (show T 60 = some (.code a60) from rfl) rfl rfl]
  have ha : aAs L 103 true (.err 0) = some (.tup [.nilp, .bool false]) := by simp [aAs, aAsT, TI.zeroAV, TI.isAgg]
  (have fA := @ha; have c1 := fun x1 => sentinel_ok x1; have c2 := fun x1 => bare_ok x1 101; refine gox ?_; clear fA c1 c2)
  (refine finx ?_; try with_reducible rfl)
  try rfl
theorem fault_nil (tag : Nat) : callω L T 60 tag [.nilI] [none] = some (.agg [.int .i64 0, .bool false, .int .i64 0], [none]) := by
  rw [call_ex (show T 60 = some (.code a60) from rfl) rfl rfl]
  (have c1 := fun x1 => none_ok x1; refine gox ?_; clear c1)
  (refine finx ?_; try with_reducible rfl)
  try rfl
theorem same_ok (tag : Nat) : callω L T 47 tag [.err 0, .agg [.int .i64 101, .bool false, .int .i64 0]] [none, none] = some (.bool true, [none, none]) := by
  rw [call_ex (show T 47 = some (.code a47) from rfl) rfl rfl]
  (have c1 := fun x1 => fault_ok x1; have c2 := fun x1 => sameFault_ok x1 101 0 101 0 false false ⟨rfl, rfl, rfl⟩; refine gox ?_; clear c1 c2)
  (refine finx ?_; try with_reducible rfl)
  try rfl
theorem is_ok (tag : Nat) : callω L T 28 tag [.err 0, .int .i64 101] [none, none] = some (.bool true, [none, none]) := by
  rw [call_ex (show T 28 = some (.code a28) from rfl) rfl rfl]
  (have c1 := fun x1 => bare_ok x1 101; have c2 := fun x1 => same_ok x1; refine gox ?_; clear c1 c2)
  (refine finx ?_; try with_reducible rfl)
  try rfl
theorem new_out (tag : Nat) (most : Int) (h : most < 1 ∨ 800 < most) : callH L T 27 tag [.int .i64 most] [] = some (.tup [.nilp, .err 0], []) := by
  refine (call_exh2 (show T (27 + 1000000000) = some (.hcode a27) from rfl) rfl (by simp only [argEnv, Nat.reduceAdd]; apply Eq.refl) (by simp only [hb, hHeap]; apply Eq.refl)).trans ?_
  rcases h with h | h
  · (refine gox ?_)
    (refine finhx ?_; try with_reducible rfl)
    try rfl
  · by_cases h1 : most < 1
    · omega
    · (refine gox ?_)
      (refine finhx ?_; try with_reducible rfl)
      try rfl

end Go.Proofs.YtmckiigefkfpaaaDoor
