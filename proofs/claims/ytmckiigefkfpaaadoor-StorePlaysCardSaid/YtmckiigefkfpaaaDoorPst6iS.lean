/- Functions of the seat, worked off from their code: chunk st6iS. Written by program (tools/mkp.py) from wip/fn. -/
import Derived.Test.YtmckiigefkfpaaaDoorSimT
import Derived.Test.YtmckiigefkfpaaaDoorSimY
import Derived.Test.YtmckiigefkfpaaaDoorPst0
set_option maxRecDepth 100000
set_option maxHeartbeats 40000000
set_option linter.unusedSimpArgs false
set_option linter.unusedVariables false
namespace Go.Proofs.YtmckiigefkfpaaaDoor
open Go Go.Sim
attribute [local irreducible] chk brX hX finH keyX visit packed backPk backOk backHeap stays getAll getX strX setX takeX normX fillX lendX partsX opsX callK lentK lentR giveX adoptX resX joinX headX loopX seqK blkK regK finX exOps ex eqT
attribute [local simp] setR_int setR_bool setR_zero setR_succ repl_int repl_bool List.getElem?_cons_zero List.getElem?_cons_succ List.getElem?_nil w_i64 w_u64 w_u8 bAnd_u8 bOr_u8 bXor_u8 bAndNot_u8 bShl_u8 wrap_u8_range all_plain_int all_plain_bool all_plain_app pl_bool pl_int pl_str pl_nilp pl_nsl pl_nilI pl_nilF take_map_len AV.cells TI.isAgg
theorem clone_iS (tag n : Nat) (cells : List AV) (h1 : cells.length = n) (h2 : n ≤ 100000) (h3 : cells.all AV.plain = true) : callω L T 43 tag [.isl 1 n cells] [none] = some (.fsl 1 n cells, [none]) := by
  rw [callω_law (show T 43 = some (.law (cloneLaw 1 8)) from rfl)]
  simp only [cloneLaw]
  rw [if_pos ⟨trivial, by omega, by omega, h3⟩]
theorem cloneN_iS (tag : Nat) : callω L T 43 tag [.nsl] [none] = some (.fsl 1 0 [], [none]) := by
  rw [callω_law (show T 43 = some (.law (cloneLaw 1 8)) from rfl)]
  rfl
theorem keys_iS (tag : Nat) (most : Int) (l : List (Int × ByteArray)) (pin : Int) (pinned : Bool) (sp : List AV) (hs : shutL sp = true) (hn : l.length ≤ 100000) :
    callH L T 38 tag [.ref 0 (tag, 0) 0] [hb 0 [.int .i64 most, .mref 1500001 (tag, 0), .msl 1000002 (tag, 0) 1 0 l.length, .int .i64 pin, .bool pinned], hb 1500001 [.mapd (l.map fun p => .int .i64 p.1) (l.map fun p => .str p.2)], hb 1000002 (l.map (fun p => .int .i64 p.1) ++ sp)] = some (.isl 1 l.length (l.map fun p => .int .i64 p.1), [hb 0 [.int .i64 most, .mref 1500001 (tag, 0), .msl 1000002 (tag, 0) 1 0 l.length, .int .i64 pin, .bool pinned], hb 1500001 [.mapd (l.map fun p => .int .i64 p.1) (l.map fun p => .str p.2)], hb 1000002 (l.map (fun p => .int .i64 p.1) ++ sp)]) := by
  refine (call_exh2 (show T (38 + 1000000000) = some (.hcode a38) from rfl) rfl (by simp only [argEnv, Nat.reduceAdd]; apply Eq.refl) (by simp only [hb, hHeap]; apply Eq.refl)).trans ?_
  have htk := take_map (fun p : Int × ByteArray => (.int .i64 p.1 : AV)) l sp
  (have fA := @htk; have c1 := fun x1 => clone_iS x1 l.length (l.map fun p => .int .i64 p.1) (by simp) hn (by simp [AV.plain]); refine gox ?_; clear fA c1)
  (have fA := And.intro @hs (And.intro @shut_ki @shut_vs); refine finhx ?_; clear fA; try with_reducible rfl)
theorem keysN_iS (tag : Nat) (most : Int) (pin : Int) (pinned : Bool) : callH L T 38 tag [.ref 0 (tag, 0) 0] [hb 0 [.int .i64 most, .mref 1500001 (tag, 0), .nsl, .int .i64 pin, .bool pinned], hb 1500001 [.mapd [] []]] = some (.isl 1 0 [], [hb 0 [.int .i64 most, .mref 1500001 (tag, 0), .nsl, .int .i64 pin, .bool pinned], hb 1500001 [.mapd [] []]]) := by
  refine (call_exh2 (show T (38 + 1000000000) = some (.hcode a38) from rfl) rfl (by simp only [argEnv, Nat.reduceAdd]; apply Eq.refl) (by simp only [hb, hHeap]; apply Eq.refl)).trans ?_
  (have c1 := fun x1 => cloneN_iS x1; refine gox ?_; clear c1)
  (refine finhx ?_; try with_reducible rfl)

end Go.Proofs.YtmckiigefkfpaaaDoor
