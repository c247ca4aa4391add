/- Functions of the seat, worked off from their code: chunk st5c. Written by program (tools/mkp.py) from wip/fn. -/
import Derived.Test.YtmckiigefkfpaaaDoorSimT
import Derived.Test.YtmckiigefkfpaaaDoorSimY
import Derived.Test.YtmckiigefkfpaaaDoorPst0
import Derived.Test.YtmckiigefkfpaaaDoorPst5iS
import Derived.Test.YtmckiigefkfpaaaDoorPst6iS
set_option maxRecDepth 100000
set_option maxHeartbeats 40000000
set_option linter.unusedSimpArgs false
set_option linter.unusedVariables false
namespace Go.Proofs.YtmckiigefkfpaaaDoor
open Go Go.Sim
attribute [local irreducible] chk brX hX finH keyX visit packed backPk backOk backHeap stays getAll getX strX setX takeX normX fillX lendX partsX opsX callK lentK lentR giveX adoptX resX joinX headX loopX seqK blkK regK finX exOps ex eqT
attribute [local simp] setR_int setR_bool setR_zero setR_succ repl_int repl_bool List.getElem?_cons_zero List.getElem?_cons_succ List.getElem?_nil w_i64 w_u64 w_u8 bAnd_u8 bOr_u8 bXor_u8 bAndNot_u8 bShl_u8 wrap_u8_range all_plain_int all_plain_bool all_plain_app pl_bool pl_int pl_str pl_nilp pl_nsl pl_nilI pl_nilF take_map_len AV.cells TI.isAgg
theorem mclone_iS (tag : Nat) (ks vs : List AV) (h1 : ks.all AV.plain = true) (h2 : vs.all AV.plain = true) : callH L T 49 tag [.mref 500000 (tag, 0)] [hb 500000 [.mapd ks vs]] = some (.mref 900000 (tag, 0), [hb 500000 [.mapd ks vs], hb 900000 [.mapd ks vs]]) := by
  rw [callH, callω_hlaw (show T (49 + 1000000000) = some (.hlaw mcloneLaw) from rfl)]
  simp only [hb, mcloneLaw]
  rw [if_pos ⟨trivial, h1, h2⟩]
theorem pl_ki {β : Type} (l : List (Int × β)) : (l.map fun p => (.int .i64 p.1 : AV)).all AV.plain = true := by simp [AV.plain]
theorem pl_vs {α : Type} (l : List (α × ByteArray)) : (l.map fun p => (.str p.2 : AV)).all AV.plain = true := by simp [AV.plain]
theorem sclone_iS (tag : Nat) (most : Int) (l : List (Int × ByteArray)) (pin : Int) (pinned : Bool) (sp : List AV) (hs : shutL sp = true) (hn : l.length ≤ 100000) :
    callH L T 30 tag [.ref 0 (tag, 0) 0] [hb 0 [.int .i64 most, .mref 1500001 (tag, 0), .msl 1000002 (tag, 0) 1 0 l.length, .int .i64 pin, .bool pinned], hb 1500001 [.mapd (l.map fun p => .int .i64 p.1) (l.map fun p => .str p.2)], hb 1000002 (l.map (fun p => .int .i64 p.1) ++ sp)] =
     some (.ref 400000 (tag, 0) 0, [hb 0 [.int .i64 most, .mref 1500001 (tag, 0), .msl 1000002 (tag, 0) 1 0 l.length, .int .i64 pin, .bool pinned], hb 400000 [.int .i64 most, .mref 400001500001 (tag, 0), .isl 1 l.length (l.map fun p => .int .i64 p.1), .int .i64 pin, .bool pinned], hb 1500001 [.mapd (l.map fun p => .int .i64 p.1) (l.map fun p => .str p.2)], hb 1000002 (l.map (fun p => .int .i64 p.1) ++ sp), hb 400001500001 [.mapd (l.map fun p => .int .i64 p.1) (l.map fun p => .str p.2)]]) := by
  refine (call_exh2 (show T (30 + 1000000000) = some (.hcode a30) from rfl) rfl (by simp only [argEnv, Nat.reduceAdd]; apply Eq.refl) (by simp only [hb, hHeap]; apply Eq.refl)).trans ?_
  have htk := take_map (fun p : Int × ByteArray => (.int .i64 p.1 : AV)) l sp
  (have fA := And.intro @htk (And.intro @hs (And.intro @shut_ki @shut_vs)); have c1 := fun x1 => clone_iS x1 l.length (l.map fun p => .int .i64 p.1) (by simp) hn (by simp [AV.plain]); have c2 := fun x1 => mclone_iS x1 (l.map fun p => .int .i64 p.1) (l.map fun p => .str p.2) (pl_ki l) (pl_vs l); refine gox ?_; clear fA c1 c2)
  (have fA := And.intro @hs (And.intro @shut_ki @shut_vs); refine finhx ?_; clear fA; try with_reducible rfl)
theorem scloneN_iS (tag : Nat) (most : Int) (pin : Int) (pinned : Bool) :
    callH L T 30 tag [.ref 0 (tag, 0) 0] [hb 0 [.int .i64 most, .mref 1500001 (tag, 0), .nsl, .int .i64 pin, .bool pinned], hb 1500001 [.mapd [] []]] =
     some (.ref 400000 (tag, 0) 0, [hb 0 [.int .i64 most, .mref 1500001 (tag, 0), .nsl, .int .i64 pin, .bool pinned], hb 400000 [.int .i64 most, .mref 400001500001 (tag, 0), .isl 1 0 [], .int .i64 pin, .bool pinned], hb 1500001 [.mapd [] []], hb 400001500001 [.mapd [] []]]) := by
  refine (call_exh2 (show T (30 + 1000000000) = some (.hcode a30) from rfl) rfl (by simp only [argEnv, Nat.reduceAdd]; apply Eq.refl) (by simp only [hb, hHeap]; apply Eq.refl)).trans ?_
  (have c1 := fun x1 => cloneN_iS x1; have c2 := fun x1 => mclone_iS x1 [] [] rfl rfl; refine gox ?_; clear c1 c2)
  (refine finhx ?_; try with_reducible rfl)
  try rfl
theorem lenC_iS (tag : Nat) (most : Int) (l : List (Int × ByteArray)) (pin : Int) (pinned : Bool) :
    callH L T 31 tag [.ref 0 (tag, 0) 0] [hb 0 [.int .i64 most, .mref 1500001 (tag, 0), .isl 1 l.length (l.map fun p => .int .i64 p.1), .int .i64 pin, .bool pinned], hb 1500001 [.mapd (l.map fun p => .int .i64 p.1) (l.map fun p => .str p.2)]] = some (.int .i64 l.length, [hb 0 [.int .i64 most, .mref 1500001 (tag, 0), .isl 1 l.length (l.map fun p => .int .i64 p.1), .int .i64 pin, .bool pinned], hb 1500001 [.mapd (l.map fun p => .int .i64 p.1) (l.map fun p => .str p.2)]]) := by
  refine (call_exh2 (show T (31 + 1000000000) = some (.hcode a31) from rfl) rfl (by simp only [argEnv, Nat.reduceAdd]; apply Eq.refl) (by simp only [hb, hHeap]; apply Eq.refl)).trans ?_
  (refine gox ?_)
  (have fA := And.intro @shut_ki @shut_vs; refine finhx ?_; clear fA; try with_reducible rfl)

end Go.Proofs.YtmckiigefkfpaaaDoor
