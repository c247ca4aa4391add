/- Functions of the seat, worked off from their code: chunk st5iS. Written by program (tools/mkp.py) from wip/fn. -/
import Derived.Test.YtmckiigefkfpaaaDoorSimT
import Derived.Test.YtmckiigefkfpaaaDoorSimY
import Derived.Test.YtmckiigefkfpaaaDoorPst0
import Derived.Test.YtmckiigefkfpaaaDoorPst1i
import Derived.Test.YtmckiigefkfpaaaDoorPst2iS
import Derived.Test.YtmckiigefkfpaaaDoorPst3iS
import Derived.Test.YtmckiigefkfpaaaDoorPst4iS
set_option maxRecDepth 100000
set_option maxHeartbeats 40000000
set_option linter.unusedSimpArgs false
set_option linter.unusedVariables false
namespace Go.Proofs.YtmckiigefkfpaaaDoor
open Go Go.Sim
attribute [local irreducible] chk brX hX finH keyX visit packed backPk backOk backHeap stays getAll getX strX setX takeX normX fillX lendX partsX opsX callK lentK lentR giveX adoptX resX joinX headX loopX seqK blkK regK finX exOps ex eqT
attribute [local simp] setR_int setR_bool setR_zero setR_succ repl_int repl_bool List.getElem?_cons_zero List.getElem?_cons_succ List.getElem?_nil w_i64 w_u64 w_u8 bAnd_u8 bOr_u8 bXor_u8 bAndNot_u8 bShl_u8 wrap_u8_range all_plain_int all_plain_bool all_plain_app pl_bool pl_int pl_str pl_nilp pl_nsl pl_nilI pl_nilF take_map_len AV.cells TI.isAgg
/-- The first one. -/
theorem putN_iS (tag : Nat) (most : Int) (pin : Int) (pinned : Bool) (k : Int) (v : ByteArray) (hm : 1 ≤ most) :
    callH L T 32 tag [.ref 0 (tag, 0) 0, .int .i64 k, .str v] [hb 0 [.int .i64 most, .mref 1500001 (tag, 0), .nsl, .int .i64 pin, .bool pinned], hb 1500001 [.mapd [] []]] = some (.tup [.int .i64 0, .bool false], [hb 0 [.int .i64 most, .mref 1500001 (tag, 0), .msl 1000002 (tag, 0) 1 0 1, .int .i64 pin, .bool pinned], hb 1500001 [.mapd [.int .i64 k] [.str v]], hb 1000002 [.int .i64 k]]) := by
  refine (call_exh2 (show T (32 + 1000000000) = some (.hcode a32) from rfl) rfl (by simp only [argEnv, Nat.reduceAdd]; apply Eq.refl) (by simp only [hb, hHeap]; apply Eq.refl)).trans ?_
  have hk := keyOK_i k
  have e2 : mput (.int .i64) (.int .i64 k) (.str v) [] [] = some ([.int .i64 k], [.str v]) := rfl
  have hko : keyEq (.int .i64) (.int .i64 k) (.int .i64 k) = some true ∧ ((.str v : AV)).solid = true ∧ ((.str v : AV)).top = true := ⟨hk, rfl, rfl⟩
  have hrp : repl 1 [(.int .i64 0 : AV)] = [.int .i64 0] := rfl
  (have fA := @hrp; have c1 := fun x1 => dropN_iS x1 most pin pinned k; refine gox ?_; clear fA c1)
  (refine finhx ?_; try with_reducible rfl)
  rfl
theorem new_iS (tag : Nat) (most : Int) (h1 : 1 ≤ most) (h2 : most ≤ 800) :
    callH L T 27 tag [.int .i64 most] [] = some (.tup [.ref 400000 (tag, 0) 0, .nilI],
      [hb 400000 [.int .i64 most, .mref 400001500001 (tag, 0), .nsl, .int .i64 0, .bool false], hb 400001500001 [.mapd [] []]]) := by
  refine (call_exh2 (show T (27 + 1000000000) = some (.hcode a27) from rfl) rfl (by simp only [argEnv, Nat.reduceAdd]; apply Eq.refl) (by simp only [hb, hHeap]; apply Eq.refl)).trans ?_
  (refine gox ?_)
  (refine finhx ?_; try with_reducible rfl)
  rfl
theorem lenN_iS (tag : Nat) (most : Int) (pin : Int) (pinned : Bool) : callH L T 31 tag [.ref 0 (tag, 0) 0] [hb 0 [.int .i64 most, .mref 1500001 (tag, 0), .nsl, .int .i64 pin, .bool pinned], hb 1500001 [.mapd [] []]] = some (.int .i64 0, [hb 0 [.int .i64 most, .mref 1500001 (tag, 0), .nsl, .int .i64 pin, .bool pinned], hb 1500001 [.mapd [] []]]) := by
  refine (call_exh2 (show T (31 + 1000000000) = some (.hcode a31) from rfl) rfl (by simp only [argEnv, Nat.reduceAdd]; apply Eq.refl) (by simp only [hb, hHeap]; apply Eq.refl)).trans ?_
  (refine gox ?_)
  (refine finhx ?_; try with_reducible rfl)
  try rfl
theorem getN_iS (tag : Nat) (most : Int) (pin : Int) (pinned : Bool) (k : Int) : callH L T 34 tag [.ref 0 (tag, 0) 0, .int .i64 k] [hb 0 [.int .i64 most, .mref 1500001 (tag, 0), .nsl, .int .i64 pin, .bool pinned], hb 1500001 [.mapd [] []]] = some (.tup [.str ByteArray.empty, .bool false], [hb 0 [.int .i64 most, .mref 1500001 (tag, 0), .nsl, .int .i64 pin, .bool pinned], hb 1500001 [.mapd [] []]]) := by
  refine (call_exh2 (show T (34 + 1000000000) = some (.hcode a34) from rfl) rfl (by simp only [argEnv, Nat.reduceAdd]; apply Eq.refl) (by simp only [hb, hHeap]; apply Eq.refl)).trans ?_
  have hk : mlook (.int .i64) (.str ByteArray.empty) (.int .i64 k) [] [] = some (.str ByteArray.empty, false) := by rw [mlook, keyOK_i]; rfl
  (refine gox ?_)
  (refine finhx ?_; try with_reducible rfl)
  try rfl
theorem pinN_iS (tag : Nat) (most : Int) (pin : Int) (pinned : Bool) (k : Int) : callH L T 36 tag [.ref 0 (tag, 0) 0, .int .i64 k] [hb 0 [.int .i64 most, .mref 1500001 (tag, 0), .nsl, .int .i64 pin, .bool pinned], hb 1500001 [.mapd [] []]] = some (.tup [], [hb 0 [.int .i64 most, .mref 1500001 (tag, 0), .nsl, .int .i64 k, .bool true], hb 1500001 [.mapd [] []]]) := by
  refine (call_exh2 (show T (36 + 1000000000) = some (.hcode a36) from rfl) rfl (by simp only [argEnv, Nat.reduceAdd]; apply Eq.refl) (by simp only [hb, hHeap]; apply Eq.refl)).trans ?_
  (refine gox ?_)
  (refine finhx ?_; try with_reducible rfl)
  try rfl
theorem freeN_iS (tag : Nat) (most : Int) (pin : Int) (pinned : Bool) : callH L T 37 tag [.ref 0 (tag, 0) 0] [hb 0 [.int .i64 most, .mref 1500001 (tag, 0), .nsl, .int .i64 pin, .bool pinned], hb 1500001 [.mapd [] []]] = some (.tup [], [hb 0 [.int .i64 most, .mref 1500001 (tag, 0), .nsl, .int .i64 pin, .bool false], hb 1500001 [.mapd [] []]]) := by
  refine (call_exh2 (show T (37 + 1000000000) = some (.hcode a37) from rfl) rfl (by simp only [argEnv, Nat.reduceAdd]; apply Eq.refl) (by simp only [hb, hHeap]; apply Eq.refl)).trans ?_
  (refine gox ?_)
  (refine finhx ?_; try with_reducible rfl)
  try rfl

end Go.Proofs.YtmckiigefkfpaaaDoor
