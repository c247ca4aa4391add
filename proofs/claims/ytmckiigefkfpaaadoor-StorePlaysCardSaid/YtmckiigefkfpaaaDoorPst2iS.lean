/- Functions of the seat, worked off from their code: chunk st2iS. Written by program (tools/mkp.py) from wip/fn. -/
import Derived.Test.YtmckiigefkfpaaaDoorSimT
import Derived.Test.YtmckiigefkfpaaaDoorSimY
import Derived.Test.YtmckiigefkfpaaaDoorPst0
import Derived.Test.YtmckiigefkfpaaaDoorPst1i
set_option maxRecDepth 100000
set_option maxHeartbeats 40000000
set_option linter.unusedSimpArgs false
set_option linter.unusedVariables false
namespace Go.Proofs.YtmckiigefkfpaaaDoor
open Go Go.Sim
attribute [local irreducible] chk brX hX finH keyX visit packed backPk backOk backHeap stays getAll getX strX setX takeX normX fillX lendX partsX opsX callK lentK lentR giveX adoptX resX joinX headX loopX seqK blkK regK finX exOps ex eqT
attribute [local simp] setR_int setR_bool setR_zero setR_succ repl_int repl_bool List.getElem?_cons_zero List.getElem?_cons_succ List.getElem?_nil w_i64 w_u64 w_u8 bAnd_u8 bOr_u8 bXor_u8 bAndNot_u8 bShl_u8 wrap_u8_range all_plain_int all_plain_bool all_plain_app pl_bool pl_int pl_str pl_nilp pl_nsl pl_nilI pl_nilF take_map_len AV.cells TI.isAgg
theorem drop_iS (tag : Nat) (most : Int) (l : List (Int × ByteArray)) (pin : Int) (pinned : Bool) (sp : List AV) (k : Int) (hs : shutL sp = true) (hn : l.length ≤ 140737488355328) (hd : (l.map (·.1)).Nodup) :
    callH L T 50 tag [.ref 0 (tag, 0) 0, .int .i64 k] [hb 0 [.int .i64 most, .mref 1500001 (tag, 0), .msl 1000002 (tag, 0) 1 0 l.length, .int .i64 pin, .bool pinned], hb 1500001 [.mapd (l.map fun p => .int .i64 p.1) (l.map fun p => .str p.2)], hb 1000002 (l.map (fun p => .int .i64 p.1) ++ sp)] =
      some (.tup [], [hb 0 [.int .i64 most, .mref 1500001 (tag, 0), .msl 1000002 (tag, 0) 1 0 (l.filter fun p => !decide (p.1 = k)).length, .int .i64 pin, .bool pinned], hb 1500001 [.mapd ((l.filter fun p => !decide (p.1 = k)).map fun p => .int .i64 p.1) ((l.filter fun p => !decide (p.1 = k)).map fun p => .str p.2)], hb 1000002 ((l.filter fun p => !decide (p.1 = k)).map (fun p => .int .i64 p.1) ++ (List.replicate (l.length - (l.filter fun p => !decide (p.1 = k)).length) (.int .i64 0) ++ sp))]) := by
  refine (call_exh2 (show T (50 + 1000000000) = some (.hcode a50) from rfl) rfl (by simp only [argEnv, Nat.reduceAdd]; apply Eq.refl) (by simp only [hb, hHeap]; apply Eq.refl)).trans ?_
  have hf := fun (tag : Nat) (x : Int) => dropp_iS tag x k
  have hk := keyOK_i k
  have hle := List.length_filter_le (fun p => !decide (p.1 = k)) l
  have e1 := mdel_map (t := .int .i64) (ek := fun x => .int .i64 x) (ev := fun x => .str x) (fun a b => keyEq_i a b) l k hd
  (have fA := And.intro @hs (And.intro @shut_ki @shut_vs); have c1 := fun x1 => deleteP_i x1 62 l sp k hs hn hf; refine gox ?_; clear fA c1)
  (have fA := And.intro @hs (And.intro @shut_ki @shut_vs); refine finhx ?_; clear fA; try with_reducible rfl)
theorem dropN_iS (tag : Nat) (most : Int) (pin : Int) (pinned : Bool) (k : Int) :
    callH L T 50 tag [.ref 0 (tag, 0) 0, .int .i64 k] [hb 0 [.int .i64 most, .mref 1500001 (tag, 0), .nsl, .int .i64 pin, .bool pinned], hb 1500001 [.mapd [] []]] = some (.tup [], [hb 0 [.int .i64 most, .mref 1500001 (tag, 0), .nsl, .int .i64 pin, .bool pinned], hb 1500001 [.mapd [] []]]) := by
  refine (call_exh2 (show T (50 + 1000000000) = some (.hcode a50) from rfl) rfl (by simp only [argEnv, Nat.reduceAdd]; apply Eq.refl) (by simp only [hb, hHeap]; apply Eq.refl)).trans ?_
  have hf := fun (tag : Nat) (x : Int) => dropp_iS tag x k
  have hk := keyOK_i k
  have e1 : mdel (.int .i64) (.int .i64 k) [] [] = some ([], []) := rfl
  (have c1 := fun x1 => deleteN_i x1 62 k hf; refine gox ?_; clear c1)
  (refine finhx ?_; try with_reducible rfl)

end Go.Proofs.YtmckiigefkfpaaaDoor
