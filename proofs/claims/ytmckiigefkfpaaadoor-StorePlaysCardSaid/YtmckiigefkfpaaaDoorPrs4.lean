/- Functions of the seat, worked off from their code: chunk rs4. Written by program (tools/mkp.py) from wip/fn. -/
import Derived.Test.YtmckiigefkfpaaaDoorSimT
import Derived.Test.YtmckiigefkfpaaaDoorSimY
import Derived.Test.YtmckiigefkfpaaaDoorPnum
import Derived.Test.YtmckiigefkfpaaaDoorPst0
import Derived.Test.YtmckiigefkfpaaaDoorPst4iS
import Derived.Test.YtmckiigefkfpaaaDoorPst5iS
import Derived.Test.YtmckiigefkfpaaaDoorPst6iS
import Derived.Test.YtmckiigefkfpaaaDoorPst7
import Derived.Test.YtmckiigefkfpaaaDoorPst5c
import Derived.Test.YtmckiigefkfpaaaDoorPrs1
import Derived.Test.YtmckiigefkfpaaaDoorPrs2
import Derived.Test.YtmckiigefkfpaaaDoorPrs2b
import Derived.Test.YtmckiigefkfpaaaDoorPsee2
set_option maxRecDepth 100000
set_option maxHeartbeats 40000000
set_option linter.unusedSimpArgs false
set_option linter.unusedVariables false
namespace Go.Proofs.YtmckiigefkfpaaaDoor
open Go Go.Sim
attribute [local irreducible] chk brX hX finH keyX visit packed backPk backOk backHeap stays getAll getX strX setX takeX normX fillX lendX partsX opsX callK lentK lentR giveX adoptX resX joinX headX loopX seqK blkK regK finX exOps ex eqT
attribute [local simp] setR_int setR_bool setR_zero setR_succ repl_int repl_bool List.getElem?_cons_zero List.getElem?_cons_succ List.getElem?_nil w_i64 w_u64 w_u8 bAnd_u8 bOr_u8 bXor_u8 bAndNot_u8 bShl_u8 wrap_u8_range all_plain_int all_plain_bool all_plain_app pl_bool pl_int pl_str pl_nilp pl_nsl pl_nilI pl_nilF take_map_len AV.cells TI.isAgg
/-- What the row behind a store's keys holds: the keys, and what else there is room for. -/
def okC (l : List (Int × ByteArray)) (cs : List AV) : Prop := ∃ sp, shutL sp = true ∧ cs = l.map (fun p => .int .i64 p.1) ++ sp
theorem okC_shut {l : List (Int × ByteArray)} {cs : List AV} (h : okC l cs) : shutL cs = true := by
  obtain ⟨sp, h1, rfl⟩ := h
  rw [shutL_app, shut_ki, h1]; rfl
section
variable (most : Int) (l : List (Int × ByteArray)) (pin : Int) (pinned : Bool) (cs : List AV) (h : okC l cs) (hn : l.length ≤ 100000)
include h hn
theorem keysC (tag : Nat) : callH L T 38 tag [.ref 0 (tag, 0) 0] [hb 0 [.int .i64 most, .mref 1500001 (tag, 0), .msl 1000002 (tag, 0) 1 0 l.length, .int .i64 pin, .bool pinned], hb 1500001 [.mapd (l.map fun p => .int .i64 p.1) (l.map fun p => .str p.2)], hb 1000002 cs] = some (.isl 1 l.length (l.map fun p => .int .i64 p.1), [hb 0 [.int .i64 most, .mref 1500001 (tag, 0), .msl 1000002 (tag, 0) 1 0 l.length, .int .i64 pin, .bool pinned], hb 1500001 [.mapd (l.map fun p => .int .i64 p.1) (l.map fun p => .str p.2)], hb 1000002 cs]) := by
  obtain ⟨sp, h1, rfl⟩ := h
  exact keys_iS tag most l pin pinned sp h1 hn
theorem lenC (tag : Nat) : callH L T 31 tag [.ref 0 (tag, 0) 0] [hb 0 [.int .i64 most, .mref 1500001 (tag, 0), .msl 1000002 (tag, 0) 1 0 l.length, .int .i64 pin, .bool pinned], hb 1500001 [.mapd (l.map fun p => .int .i64 p.1) (l.map fun p => .str p.2)], hb 1000002 cs] = some (.int .i64 l.length, [hb 0 [.int .i64 most, .mref 1500001 (tag, 0), .msl 1000002 (tag, 0) 1 0 l.length, .int .i64 pin, .bool pinned], hb 1500001 [.mapd (l.map fun p => .int .i64 p.1) (l.map fun p => .str p.2)], hb 1000002 cs]) := by
  obtain ⟨sp, h1, rfl⟩ := h
  exact len_iS tag most l pin pinned sp h1 (by omega)
theorem freeC (tag : Nat) : callH L T 37 tag [.ref 0 (tag, 0) 0] [hb 0 [.int .i64 most, .mref 1500001 (tag, 0), .msl 1000002 (tag, 0) 1 0 l.length, .int .i64 pin, .bool pinned], hb 1500001 [.mapd (l.map fun p => .int .i64 p.1) (l.map fun p => .str p.2)], hb 1000002 cs] = some (.tup [], [hb 0 [.int .i64 most, .mref 1500001 (tag, 0), .msl 1000002 (tag, 0) 1 0 l.length, .int .i64 pin, .bool false], hb 1500001 [.mapd (l.map fun p => .int .i64 p.1) (l.map fun p => .str p.2)], hb 1000002 cs]) := by
  obtain ⟨sp, h1, rfl⟩ := h
  exact free_iS tag most l pin pinned sp h1 (by omega)
theorem pinC (tag : Nat) (k : Int) : callH L T 36 tag [.ref 0 (tag, 0) 0, .int .i64 k] [hb 0 [.int .i64 most, .mref 1500001 (tag, 0), .msl 1000002 (tag, 0) 1 0 l.length, .int .i64 pin, .bool pinned], hb 1500001 [.mapd (l.map fun p => .int .i64 p.1) (l.map fun p => .str p.2)], hb 1000002 cs] = some (.tup [], [hb 0 [.int .i64 most, .mref 1500001 (tag, 0), .msl 1000002 (tag, 0) 1 0 l.length, .int .i64 k, .bool true], hb 1500001 [.mapd (l.map fun p => .int .i64 p.1) (l.map fun p => .str p.2)], hb 1000002 cs]) := by
  obtain ⟨sp, h1, rfl⟩ := h
  exact pin_iS tag most l pin pinned sp k h1 (by omega)
theorem getC (tag : Nat) (k : Int) : callH L T 34 tag [.ref 0 (tag, 0) 0, .int .i64 k] [hb 0 [.int .i64 most, .mref 1500001 (tag, 0), .msl 1000002 (tag, 0) 1 0 l.length, .int .i64 pin, .bool pinned], hb 1500001 [.mapd (l.map fun p => .int .i64 p.1) (l.map fun p => .str p.2)], hb 1000002 cs] = some (match l.find? fun p => decide (p.1 = k) with | some p => .tup [.str p.2, .bool true] | none => .tup [.str ByteArray.empty, .bool false], [hb 0 [.int .i64 most, .mref 1500001 (tag, 0), .msl 1000002 (tag, 0) 1 0 l.length, .int .i64 pin, .bool pinned], hb 1500001 [.mapd (l.map fun p => .int .i64 p.1) (l.map fun p => .str p.2)], hb 1000002 cs]) := by
  obtain ⟨sp, h1, rfl⟩ := h
  exact get_iS tag most l pin pinned sp k h1 (by omega)
theorem cloneC (tag : Nat) : callH L T 30 tag [.ref 0 (tag, 0) 0] [hb 0 [.int .i64 most, .mref 1500001 (tag, 0), .msl 1000002 (tag, 0) 1 0 l.length, .int .i64 pin, .bool pinned], hb 1500001 [.mapd (l.map fun p => .int .i64 p.1) (l.map fun p => .str p.2)], hb 1000002 cs] = some (.ref 400000 (tag, 0) 0, [hb 0 [.int .i64 most, .mref 1500001 (tag, 0), .msl 1000002 (tag, 0) 1 0 l.length, .int .i64 pin, .bool pinned], hb 400000 [.int .i64 most, .mref 400001500001 (tag, 0), .isl 1 l.length (l.map fun p => .int .i64 p.1), .int .i64 pin, .bool pinned], hb 1500001 [.mapd (l.map fun p => .int .i64 p.1) (l.map fun p => .str p.2)], hb 1000002 cs, hb 400001500001 [.mapd (l.map fun p => .int .i64 p.1) (l.map fun p => .str p.2)]]) := by
  obtain ⟨sp, h1, rfl⟩ := h
  exact sclone_iS tag most l pin pinned sp h1 hn
theorem putC_stay (k : Int) (v : ByteArray) (hd : (l.map (·.1)).Nodup) (hle : ((putL l k v).length : Int) ≤ most) : ∃ cs', okC (putL l k v) cs' ∧ ∀ tag, callH L T 32 tag [.ref 0 (tag, 0) 0, .int .i64 k, .str v] [hb 0 [.int .i64 most, .mref 1500001 (tag, 0), .msl 1000002 (tag, 0) 1 0 l.length, .int .i64 pin, .bool pinned], hb 1500001 [.mapd (l.map fun p => .int .i64 p.1) (l.map fun p => .str p.2)], hb 1000002 cs] = some (.tup [.int .i64 0, .bool false], [hb 0 [.int .i64 most, .mref 1500001 (tag, 0), .msl 1000002 (tag, 0) 1 0 (putL l k v).length, .int .i64 pin, .bool pinned], hb 1500001 [.mapd ((putL l k v).map fun p => .int .i64 p.1) ((putL l k v).map fun p => .str p.2)], hb 1000002 cs']) := by
  obtain ⟨sp, h1, rfl⟩ := h
  refine ⟨_, ⟨[], rfl, rfl⟩, fun tag => ?_⟩
  have := put_iS tag most l pin pinned sp k v h1 hn hd
  rw [if_pos hle] at this
  exact this
theorem putC_go (k : Int) (v : ByteArray) (hd : (l.map (·.1)).Nodup) (hle : ¬ ((putL l k v).length : Int) ≤ most) : ∃ cs', okC (dropL (putL l k v) (vic k pin pinned (putL l k v))) cs' ∧ ∀ tag, callH L T 32 tag [.ref 0 (tag, 0) 0, .int .i64 k, .str v] [hb 0 [.int .i64 most, .mref 1500001 (tag, 0), .msl 1000002 (tag, 0) 1 0 l.length, .int .i64 pin, .bool pinned], hb 1500001 [.mapd (l.map fun p => .int .i64 p.1) (l.map fun p => .str p.2)], hb 1000002 cs] = some (.tup [.int .i64 (vic k pin pinned (putL l k v)), .bool true], [hb 0 [.int .i64 most, .mref 1500001 (tag, 0), .msl 1000002 (tag, 0) 1 0 (dropL (putL l k v) (vic k pin pinned (putL l k v))).length, .int .i64 pin, .bool pinned], hb 1500001 [.mapd ((dropL (putL l k v) (vic k pin pinned (putL l k v))).map fun p => .int .i64 p.1) ((dropL (putL l k v) (vic k pin pinned (putL l k v))).map fun p => .str p.2)], hb 1000002 cs']) := by
  obtain ⟨sp, h1, rfl⟩ := h
  refine ⟨_, ⟨List.replicate ((putL l k v).length - (dropL (putL l k v) (vic k pin pinned (putL l k v))).length) (.int .i64 0), shutL_rep _ _ rfl, rfl⟩, fun tag => ?_⟩
  have := put_iS tag most l pin pinned sp k v h1 hn hd
  rw [if_neg hle] at this
  exact this
end
theorem sameC (tag : Nat) (l : List (Int × ByteArray)) (h : l.length < 1000000) : callω L T 25 tag [.isl 1 l.length (l.map fun p => .int .i64 p.1), .isl 1 l.length (l.map fun p => .int .i64 p.1)] [none, none] = some (.bool true, [none, none]) := by
  have := r_Same tag (l.map (·.1)) (by simpa using h)
  simp only [List.length_map, List.map_map, Function.comp_def] at this
  exact this
theorem putN_okC (k : Int) (v : ByteArray) : okC [(k, v)] [.int .i64 k] := ⟨[], rfl, rfl⟩

end Go.Proofs.YtmckiigefkfpaaaDoor
