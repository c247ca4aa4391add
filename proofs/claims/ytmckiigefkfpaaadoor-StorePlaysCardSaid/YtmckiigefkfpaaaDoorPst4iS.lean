/- Functions of the seat, worked off from their code: chunk st4iS. Written by program (tools/mkp.py) from wip/fn. -/
import Derived.Test.YtmckiigefkfpaaaDoorSimT
import Derived.Test.YtmckiigefkfpaaaDoorSimY
import Derived.Test.YtmckiigefkfpaaaDoorPst0
import Derived.Test.YtmckiigefkfpaaaDoorPst1i
import Derived.Test.YtmckiigefkfpaaaDoorPst2iS
import Derived.Test.YtmckiigefkfpaaaDoorPst3iS
set_option maxRecDepth 100000
set_option maxHeartbeats 40000000
set_option linter.unusedSimpArgs false
set_option linter.unusedVariables false
namespace Go.Proofs.YtmckiigefkfpaaaDoor
open Go Go.Sim
attribute [local irreducible] chk brX hX finH keyX visit packed backPk backOk backHeap stays getAll getX strX setX takeX normX fillX lendX partsX opsX callK lentK lentR giveX adoptX resX joinX headX loopX seqK blkK regK finX exOps ex eqT
attribute [local simp] setR_int setR_bool setR_zero setR_succ repl_int repl_bool List.getElem?_cons_zero List.getElem?_cons_succ List.getElem?_nil w_i64 w_u64 w_u8 bAnd_u8 bOr_u8 bXor_u8 bAndNot_u8 bShl_u8 wrap_u8_range all_plain_int all_plain_bool all_plain_app pl_bool pl_int pl_str pl_nilp pl_nsl pl_nilI pl_nilF take_map_len AV.cells TI.isAgg
theorem put_iS (tag : Nat) (most : Int) (l : List (Int × ByteArray)) (pin : Int) (pinned : Bool) (sp : List AV) (k : Int) (v : ByteArray) (hs : shutL sp = true) (hn : l.length ≤ 100000) (hd : (l.map (·.1)).Nodup) :
    callH L T 32 tag [.ref 0 (tag, 0) 0, .int .i64 k, .str v] [hb 0 [.int .i64 most, .mref 1500001 (tag, 0), .msl 1000002 (tag, 0) 1 0 l.length, .int .i64 pin, .bool pinned], hb 1500001 [.mapd (l.map fun p => .int .i64 p.1) (l.map fun p => .str p.2)], hb 1000002 (l.map (fun p => .int .i64 p.1) ++ sp)] =
      some (if ((putL l k v).length : Int) ≤ most then (.tup [.int .i64 0, .bool false], [hb 0 [.int .i64 most, .mref 1500001 (tag, 0), .msl 1000002 (tag, 0) 1 0 (putL l k v).length, .int .i64 pin, .bool pinned], hb 1500001 [.mapd ((putL l k v).map fun p => .int .i64 p.1) ((putL l k v).map fun p => .str p.2)], hb 1000002 ((putL l k v).map (fun p => .int .i64 p.1) ++ [])])
        else (.tup [.int .i64 (vic k pin pinned (putL l k v)), .bool true], [hb 0 [.int .i64 most, .mref 1500001 (tag, 0), .msl 1000002 (tag, 0) 1 0 (dropL (putL l k v) (vic k pin pinned (putL l k v))).length, .int .i64 pin, .bool pinned], hb 1500001 [.mapd ((dropL (putL l k v) (vic k pin pinned (putL l k v))).map fun p => .int .i64 p.1) ((dropL (putL l k v) (vic k pin pinned (putL l k v))).map fun p => .str p.2)], hb 1000002 ((dropL (putL l k v) (vic k pin pinned (putL l k v))).map (fun p => .int .i64 p.1) ++ List.replicate ((putL l k v).length - (dropL (putL l k v) (vic k pin pinned (putL l k v))).length) (.int .i64 0))])) := by
  refine (call_exh2 (show T (32 + 1000000000) = some (.hcode a32) from rfl) rfl (by simp only [argEnv, Nat.reduceAdd]; apply Eq.refl) (by simp only [hb, hHeap]; apply Eq.refl)).trans ?_
  have hk := keyOK_i k
  have hle := List.length_filter_le (fun p => !decide (p.1 = k)) l
  have htk := take_map (fun p : Int × ByteArray => ((.int .i64 p.1 : AV))) (l.filter fun p => !decide (p.1 = k)) (List.replicate (l.length - (l.filter fun p => !decide (p.1 = k)).length) (.int .i64 0) ++ sp)
  have e2 := mput_new (t := .int .i64) (ek := fun x => .int .i64 x) (ev := fun x => .str x) (fun a b => keyEq_i a b) (l.filter fun p => !decide (p.1 = k)) k v (fun p hp => by simpa using (List.mem_filter.1 hp).2)
  have hl2 : ((l.filter fun p => !decide (p.1 = k)) ++ [(k, v)]).length = (l.filter fun p => !decide (p.1 = k)).length + 1 := by simp
  have hd2 := putL_nodup l k v hd
  have hap : List.map (fun p : Int × ByteArray => (.int .i64 p.1 : AV)) (l.filter fun p => !decide (p.1 = k)) ++ [.int .i64 k] = List.map (fun p : Int × ByteArray => (.int .i64 p.1 : AV)) (putL l k v) := by simp [putL]
  change _ = some ((putL l k v).map _, (putL l k v).map _) at e2
  change (putL l k v).length = _ at hl2
  have hs0 : shutL [] = true := rfl
  have hko : keyEq (.int .i64) (.int .i64 k) (.int .i64 k) = some true ∧ ((.str v : AV)).solid = true ∧ ((.str v : AV)).top = true := ⟨hk, rfl, rfl⟩
  have v0 := fun tag => victim_iS tag most (putL l k v) pin pinned [] k hs0 (by omega)
  have d0 := fun tag => drop_iS tag most (putL l k v) pin pinned [] (vic k pin pinned (putL l k v)) hs0 (by omega) hd2
  simp only [List.append_nil] at v0 d0
  have hrp : repl 1 [(.int .i64 0 : AV)] = [.int .i64 0] := rfl
  by_cases hm : ((putL l k v).length : Int) ≤ most
  · rw [if_pos hm]
    (have fA := And.intro @hs (And.intro @shut_ki (And.intro @shut_vs (And.intro @htk (And.intro @hap (And.intro @hl2.symm @hrp))))); have c1 := fun x1 => drop_iS x1 most l pin pinned sp k hs (by omega) hd; refine gox ?_; clear fA c1)
    (have fA := And.intro @hs (And.intro @shut_ki @shut_vs); refine finhx ?_; clear fA; try with_reducible rfl)
    simp only [List.append_nil]; rfl
  · rw [if_neg hm]
    (have fA := And.intro @hs (And.intro @shut_ki (And.intro @shut_vs (And.intro @htk (And.intro @hap (And.intro @hl2.symm @hrp))))); have c1 := fun x1 => drop_iS x1 most l pin pinned sp k hs (by omega) hd; have c2 := fun x1 => v0 x1; have c3 := fun x1 => d0 x1; refine gox ?_; clear fA c1 c2 c3)
    (have fA := And.intro @hs (And.intro @shut_ki @shut_vs); refine finhx ?_; clear fA; try with_reducible rfl)
    rfl

end Go.Proofs.YtmckiigefkfpaaaDoor
