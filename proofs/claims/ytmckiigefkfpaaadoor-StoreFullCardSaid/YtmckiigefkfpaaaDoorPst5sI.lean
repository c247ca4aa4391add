/- Functions of the seat, worked off from their code: chunk st5sI. Written by program (tools/mkp.py) from wip/fn. -/
import Derived.Test.YtmckiigefkfpaaaDoorSimT
import Derived.Test.YtmckiigefkfpaaaDoorSimY
import Derived.Test.YtmckiigefkfpaaaDoorPst0
import Derived.Test.YtmckiigefkfpaaaDoorPst1s
import Derived.Test.YtmckiigefkfpaaaDoorPst2sI
import Derived.Test.YtmckiigefkfpaaaDoorPst3sI
import Derived.Test.YtmckiigefkfpaaaDoorPst4sI
set_option maxRecDepth 100000
set_option maxHeartbeats 40000000
set_option linter.unusedSimpArgs false
set_option linter.unusedVariables false
namespace Go.Proofs.YtmckiigefkfpaaaDoor
open Go Go.Sim
attribute [local irreducible] chk brX hX finH keyX getX strX setX takeX normX fillX lendX partsX opsX callK lentK lentR giveX adoptX resX joinX headX loopX seqK blkK regK finX exOps ex eqT
attribute [local simp] setR_int setR_bool setR_zero setR_succ repl_int repl_bool List.getElem?_cons_zero List.getElem?_cons_succ List.getElem?_nil w_i64 w_u64 w_u8 bAnd_u8 bOr_u8 bXor_u8 bAndNot_u8 bShl_u8 wrap_u8_range all_plain_int all_plain_bool all_plain_app pl_bool pl_int pl_str pl_nilp pl_nsl pl_nilI pl_nilF take_map_len AV.cells TI.isAgg
/-- The first one. -/
theorem putN_sI (tag : Nat) (most : Int) (pin : ByteArray) (pinned : Bool) (k : ByteArray) (v : Int) (hm : 1 ≤ most) :
    callH L T 10 tag [.ref 0 (tag, 0) 0, .str k, .int .i64 v] [hb 0 [.int .i64 most, .mref 1500001 (tag, 0), .nsl, .str pin, .bool pinned], hb 1500001 [.mapd [] []]] = some (.tup [.str ByteArray.empty, .bool false], [hb 0 [.int .i64 most, .mref 1500001 (tag, 0), .msl 1000002 (tag, 0) 1 0 1, .str pin, .bool pinned], hb 1500001 [.mapd [.str k] [.int .i64 v]], hb 1000002 [.str k]]) := by
  refine (call_exh2 (show T (10 + 1000000000) = some (.hcode a10) from rfl) rfl (by simp only [argEnv, Nat.reduceAdd]; apply Eq.refl) (by simp only [hb, hHeap]; apply Eq.refl)).trans ?_
  have hk := keyOK_s k
  have e2 : mput .str (.str k) (.int .i64 v) [] [] = some ([.str k], [.int .i64 v]) := rfl
  have hko : keyEq .str (.str k) (.str k) = some true ∧ ((.int .i64 v : AV)).solid = true ∧ ((.int .i64 v : AV)).top = true := ⟨hk, rfl, rfl⟩
  have hrp : repl 1 [(.str ByteArray.empty : AV)] = [.str ByteArray.empty] := rfl
  (have fA := @hrp; have c1 := fun x1 => dropN_sI x1 most pin pinned k; refine gox ?_; clear fA c1)
  (refine finhx ?_; try with_reducible rfl)
  rfl
theorem new_sI (tag : Nat) (most : Int) (h1 : 1 ≤ most) (h2 : most ≤ 800) :
    callH L T 8 tag [.int .i64 most] [] = some (.tup [.ref 400000 (tag, 0) 0, .nilI],
      [hb 400000 [.int .i64 most, .mref 400001500001 (tag, 0), .nsl, .str ByteArray.empty, .bool false], hb 400001500001 [.mapd [] []]]) := by
  refine (call_exh2 (show T (8 + 1000000000) = some (.hcode a8) from rfl) rfl (by simp only [argEnv, Nat.reduceAdd]; apply Eq.refl) (by simp only [hb, hHeap]; apply Eq.refl)).trans ?_
  (refine gox ?_)
  (refine finhx ?_; try with_reducible rfl)
  rfl
theorem lenN_sI (tag : Nat) (most : Int) (pin : ByteArray) (pinned : Bool) : callH L T 13 tag [.ref 0 (tag, 0) 0] [hb 0 [.int .i64 most, .mref 1500001 (tag, 0), .nsl, .str pin, .bool pinned], hb 1500001 [.mapd [] []]] = some (.int .i64 0, [hb 0 [.int .i64 most, .mref 1500001 (tag, 0), .nsl, .str pin, .bool pinned], hb 1500001 [.mapd [] []]]) := by
  refine (call_exh2 (show T (13 + 1000000000) = some (.hcode a13) from rfl) rfl (by simp only [argEnv, Nat.reduceAdd]; apply Eq.refl) (by simp only [hb, hHeap]; apply Eq.refl)).trans ?_
  (refine gox ?_)
  (refine finhx ?_; try with_reducible rfl)
  try rfl
theorem getN_sI (tag : Nat) (most : Int) (pin : ByteArray) (pinned : Bool) (k : ByteArray) : callH L T 12 tag [.ref 0 (tag, 0) 0, .str k] [hb 0 [.int .i64 most, .mref 1500001 (tag, 0), .nsl, .str pin, .bool pinned], hb 1500001 [.mapd [] []]] = some (.tup [.int .i64 0, .bool false], [hb 0 [.int .i64 most, .mref 1500001 (tag, 0), .nsl, .str pin, .bool pinned], hb 1500001 [.mapd [] []]]) := by
  refine (call_exh2 (show T (12 + 1000000000) = some (.hcode a12) from rfl) rfl (by simp only [argEnv, Nat.reduceAdd]; apply Eq.refl) (by simp only [hb, hHeap]; apply Eq.refl)).trans ?_
  have hk : mlook .str (.int .i64 0) (.str k) [] [] = some (.int .i64 0, false) := by rw [mlook, keyOK_s]; rfl
  (refine gox ?_)
  (refine finhx ?_; try with_reducible rfl)
  try rfl
theorem pinN_sI (tag : Nat) (most : Int) (pin : ByteArray) (pinned : Bool) (k : ByteArray) : callH L T 11 tag [.ref 0 (tag, 0) 0, .str k] [hb 0 [.int .i64 most, .mref 1500001 (tag, 0), .nsl, .str pin, .bool pinned], hb 1500001 [.mapd [] []]] = some (.tup [], [hb 0 [.int .i64 most, .mref 1500001 (tag, 0), .nsl, .str k, .bool true], hb 1500001 [.mapd [] []]]) := by
  refine (call_exh2 (show T (11 + 1000000000) = some (.hcode a11) from rfl) rfl (by simp only [argEnv, Nat.reduceAdd]; apply Eq.refl) (by simp only [hb, hHeap]; apply Eq.refl)).trans ?_
  (refine gox ?_)
  (refine finhx ?_; try with_reducible rfl)
  try rfl
theorem freeN_sI (tag : Nat) (most : Int) (pin : ByteArray) (pinned : Bool) : callH L T 14 tag [.ref 0 (tag, 0) 0] [hb 0 [.int .i64 most, .mref 1500001 (tag, 0), .nsl, .str pin, .bool pinned], hb 1500001 [.mapd [] []]] = some (.tup [], [hb 0 [.int .i64 most, .mref 1500001 (tag, 0), .nsl, .str pin, .bool false], hb 1500001 [.mapd [] []]]) := by
  refine (call_exh2 (show T (14 + 1000000000) = some (.hcode a14) from rfl) rfl (by simp only [argEnv, Nat.reduceAdd]; apply Eq.refl) (by simp only [hb, hHeap]; apply Eq.refl)).trans ?_
  (refine gox ?_)
  (refine finhx ?_; try with_reducible rfl)
  try rfl

end Go.Proofs.YtmckiigefkfpaaaDoor
