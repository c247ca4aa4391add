/- Functions of the seat, worked off from their code: chunk attr4. Written by program (tools/mkp.py) from wip/fn. -/
import Derived.Test.YtkienchmbfhigaaSimT
import Derived.Test.YtkienchmbfhigaaSimY
import Derived.Test.YtkienchmbfhigaaPattr3
import Derived.Test.YtkienchmbfhigaaPnum
set_option maxRecDepth 100000
set_option maxHeartbeats 40000000
set_option linter.unusedSimpArgs false
set_option linter.unusedVariables false
namespace Go.Proofs.Ytkienchmbfhigaa
open Go Go.Sim
attribute [local irreducible] chk brX getX strX setX takeX normX fillX lendX partsX opsX callK lentK lentR giveX adoptX resX joinX headX loopX seqK blkK regK finX exOps ex eqT
attribute [local simp] setR_int setR_bool setR_zero setR_succ repl_int repl_bool List.getElem?_cons_zero List.getElem?_cons_succ List.getElem?_nil w_i64 w_u64 w_u8 bAnd_u8 bOr_u8 bXor_u8 bAndNot_u8 bShl_u8 wrap_u8_range all_plain_int all_plain_bool all_plain_app pl_bool pl_int pl_str pl_nilp pl_nsl pl_nilI pl_nilF take_map_len AV.cells TI.isAgg
attribute [local simp] Cell.flen Cell.rd Cell.g0 Cell.g1 Cell.g2 Cell.g3 Cell.g4 Cell.g5 Cell.g6 Cell.g7 Cell.g8 Cell.g9 Cell.put Cell.pute Cell.s0 Cell.s1 Cell.s2 Cell.s3 Cell.s4 Cell.s5 Cell.s6 Cell.s7 Cell.s8 Cell.s9 Cell.zero Cell.enc At.flen At.rd At.g0 At.g1 At.g2 At.g3 At.g4 At.g5 At.g6 At.g7 At.g8 At.g9 At.g10 At.put At.pute At.s0 At.s1 At.s2 At.s3 At.s4 At.s5 At.s6 At.s7 At.s8 At.s9 At.s10 At.zero At.enc

theorem row0_fg : (ceF [] 0 0).fg = 7 := by decide +kernel
theorem row0_gl : (ceF [] 0 39).glyph = 32 := by decide +kernel
theorem row0_tall : tallF [] 0 40 = false := by decide +kernel
/-- A row that Row gave, read. -/
theorem row_g0 (bs : List Int) (o : Int) {i : Nat} (h : i < 40) : (flat Cell.enc (rowL bs o 40))[i * 10]? = some (.int .i64 (ceF bs o i).glyph) := by
  rw [Cell.g0 (by rw [rowL_len]; exact h), rowL_get, if_pos h]
theorem row_g1 (bs : List Int) (o : Int) {i : Nat} (h : i < 40) : (flat Cell.enc (rowL bs o 40))[i * 10 + 1]? = some (.int .i64 (ceF bs o i).fg) := by
  rw [Cell.g1 (by rw [rowL_len]; exact h), rowL_get, if_pos h]
theorem row_g2 (bs : List Int) (o : Int) {i : Nat} (h : i < 40) : (flat Cell.enc (rowL bs o 40))[i * 10 + 2]? = some (.int .i64 (ceF bs o i).bg) := by
  rw [Cell.g2 (by rw [rowL_len]; exact h), rowL_get, if_pos h]
theorem row_g3 (bs : List Int) (o : Int) {i : Nat} (h : i < 40) : (flat Cell.enc (rowL bs o 40))[i * 10 + 3]? = some (.bool (ceF bs o i).flash) := by
  rw [Cell.g3 (by rw [rowL_len]; exact h), rowL_get, if_pos h]
theorem row_g4 (bs : List Int) (o : Int) {i : Nat} (h : i < 40) : (flat Cell.enc (rowL bs o 40))[i * 10 + 4]? = some (.bool (ceF bs o i).conceal) := by
  rw [Cell.g4 (by rw [rowL_len]; exact h), rowL_get, if_pos h]
theorem row_g5 (bs : List Int) (o : Int) {i : Nat} (h : i < 40) : (flat Cell.enc (rowL bs o 40))[i * 10 + 5]? = some (.bool (ceF bs o i).box) := by
  rw [Cell.g5 (by rw [rowL_len]; exact h), rowL_get, if_pos h]
theorem row_g8 (bs : List Int) (o : Int) {i : Nat} (h : i < 40) : (flat Cell.enc (rowL bs o 40))[i * 10 + 8]? = some (.int .i64 (ceF bs o i).high) := by
  rw [Cell.g8 (by rw [rowL_len]; exact h), rowL_get, if_pos h]
theorem row_rd (bs : List Int) (o : Int) {i : Nat} (h : i < 40) : ((flat Cell.enc (rowL bs o 40)).drop (i * 10)).take 10 = (ceF bs o i).enc := by
  have := flt_rd Cell.len (xs := rowL bs o 40) (i := i) (by rw [rowL_len]; exact h)
  rw [this, rowL_get, if_pos h]
theorem row_len (bs : List Int) (o : Int) : (flat Cell.enc (rowL bs o 40)).length = 400 := by rw [Cell.flen, rowL_len]
/-- A row's cells in an array's block. -/
theorem row_all {cs ds : List AV} (h : cs.length = 400) (h' : ds.length = 400) : setR cs 0 ds = ds := by unfold setR; rw [List.take_zero, List.nil_append, List.drop_eq_nil_of_le (by omega), List.append_nil]
theorem cellz_len : (repl 40 [AV.int .i64 0, .int .i64 0, .int .i64 0, .bool false, .bool false, .bool false, .bool false, .bool false, .int .i64 0, .int .i64 0]).length = 400 := by simp [repl]
theorem row_put (bs : List Int) (o : Int) : setR (repl 40 [AV.int .i64 0, .int .i64 0, .int .i64 0, .bool false, .bool false, .bool false, .bool false, .bool false, .int .i64 0, .int .i64 0]) 0 (flat Cell.enc (rowL bs o 40)) = flat Cell.enc (rowL bs o 40) := row_all cellz_len (row_len bs o)
end Go.Proofs.Ytkienchmbfhigaa
