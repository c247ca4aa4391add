/- Functions of the seat, worked off from their code: chunk see. Written by program (tools/mkp.py) from wip/fn. -/
import Derived.Test.YtmckiigefkfpaaaDoorSimT
import Derived.Test.YtmckiigefkfpaaaDoorSimY

set_option maxRecDepth 100000
set_option maxHeartbeats 40000000
set_option linter.unusedSimpArgs false
set_option linter.unusedVariables false
namespace Go.Proofs.YtmckiigefkfpaaaDoor
open Go Go.Sim
attribute [local irreducible] chk brX hX finH keyX visit packed backPk backOk backHeap stays getAll getX strX setX takeX normX fillX lendX partsX opsX callK lentK lentR giveX adoptX resX joinX headX loopX seqK blkK regK finX exOps ex eqT
attribute [local simp] setR_int setR_bool setR_zero setR_succ repl_int repl_bool List.getElem?_cons_zero List.getElem?_cons_succ List.getElem?_nil w_i64 w_u64 w_u8 bAnd_u8 bOr_u8 bXor_u8 bAndNot_u8 bShl_u8 wrap_u8_range all_plain_int all_plain_bool all_plain_app pl_bool pl_int pl_str pl_nilp pl_nsl pl_nilI pl_nilF take_map_len AV.cells TI.isAgg
theorem sentinels_ok (tag : Nat) : callH L T 69 tag [] [] = some (.msl 400000 (tag, 0) 1 0 6, [hb 400000 [.err 0, .err 1, .err 2, .err 3, .err 4, .err 5]]) := by
  refine (call_exh2 (show T (69 + 1000000000) = some (.hcode a69) from rfl) rfl (by simp only [argEnv, Nat.reduceAdd]; apply Eq.refl) (by simp only [hb, hHeap]; apply Eq.refl)).trans ?_
  (refine gox ?_)
  (refine finhx ?_; try with_reducible rfl)
  try rfl
theorem bare_ok (tag : Nat) (n : Int) : callω L T 48 tag [.int .i64 n] [none] = some (.agg [.int .i64 n, .bool false, .int .i64 0], [none]) := by
  rw [call_ex (show T 48 = some (.code a48) from rfl) rfl rfl]
  (refine gox ?_)
  (refine finx ?_; try with_reducible rfl)
  try rfl
theorem none_ok (tag : Nat) : callω L T 67 tag [] [] = some (.agg [.int .i64 0, .bool false, .int .i64 0], []) := by
  rw [call_ex (show T 67 = some (.code a67) from rfl) rfl rfl]
  (refine gox ?_)
  (refine finx ?_; try with_reducible rfl)
  try rfl
theorem alike_ok (tag g k : Nat) : callω L T 70 tag [.err g, .err k] [none, none] = some (.bool (decide (g = k)), [none, none]) := by
  rw [call_ex (show T 70 = some (.code a70) from rfl) rfl rfl]
  (refine gox ?_)
  (refine finx ?_; try with_reducible rfl)
  try rfl
theorem sentinel_ok (tag : Nat) : callω L T 68 tag [.err 0] [none] = some (.int .i64 101, [none]) := by
  rw [call_ex (show T 68 = some (.code a68) from rfl) rfl rfl]
  (have c1 := fun x1 => sentinels_ok x1; refine gox ?_; clear c1)
  rw [headX_go]
  (have c1 := fun x1 => alike_ok x1 0 0; refine gox ?_; clear c1)
  (refine finx ?_; try with_reducible rfl)
  try rfl
theorem sameFault_ok (tag : Nat) (a c x y : Int) (b d : Bool) (h : a = x ∧ b = d ∧ c = y) : callω L T 59 tag [.agg [.int .i64 a, .bool b, .int .i64 c], .agg [.int .i64 x, .bool d, .int .i64 y]] [none, none] = some (.bool true, [none, none]) := by
  obtain ⟨rfl, rfl, rfl⟩ := h
  have h1 : (a == a) = true := beq_self_eq_true _
  have h2 : (c == c) = true := beq_self_eq_true _
  have h3 : (b == b) = true := beq_self_eq_true _
  rw [call_ex (show T 59 = some (.code a59) from rfl) rfl rfl]
  (refine gox ?_)
  (refine finx ?_; try with_reducible rfl)
  simp

end Go.Proofs.YtmckiigefkfpaaaDoor
