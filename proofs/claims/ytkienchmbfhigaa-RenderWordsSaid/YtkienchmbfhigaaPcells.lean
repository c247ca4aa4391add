/- Functions of the seat, worked off from their code: chunk cells. Written by program (tools/mkp.py) from wip/fn. -/
import Derived.Test.YtkienchmbfhigaaSimT
import Derived.Test.YtkienchmbfhigaaSimArr

set_option maxRecDepth 100000
set_option maxHeartbeats 4000000
set_option linter.unusedSimpArgs false
set_option linter.unusedVariables false
namespace Go.Proofs.Ytkienchmbfhigaa
open Go Go.Sim
attribute [local congr] ite_congr go_congr goOps_congr stepK_congr ret_congr headK_congr condK_congr guardR_congr guardS_congr
attribute [local simp] go_skip go_ret go_exit go_region go_seq go_cond go_block go_loop ret_nil ret_seq ret_seq_exit ret_seq_ret ret_blk ret_blk_ret ret_blk_exit ret_loop ret_loop_exit ret_loop_ret loopK_head goOps_nil goOps_consU goOps_guardU guardR_some guardS_bool guardS_tup stepK_some stepK_none stepK_ite condK_bool fin
attribute [local simp] denOp operand aget aput adel putD tidy trim getAll freezeAll freezeOne lentOut oneOrTup argEnv lentHeap ofConst ofScalar aCall lendAll lend lentApart lentFree readFree giveBack adopt aBin aUn mkA getRes asInt? bnd okRead okStore Ann.storeAt lendSize firstRegion List.find?_cons List.find?_nil
attribute [local simp] aInt_add aInt_sub aInt_mul aInt_quo aInt_rem aInt_and aInt_or aInt_xor aInt_andNot aInt_eql aInt_neq aInt_lss aInt_leq aInt_gtr aInt_geq aShift_shl aShift_shr
attribute [local simp] bAnd_u8 bOr_u8 bXor_u8 bAndNot_u8 bShl_u8 wrap_u8_range
attribute [local simp] aBuiltin slLen slCells aAppend newBlk blkOf putCells rdCells TI.isAgg aLoad aStore cutA aSlice aStrSlice fillA parts slElem fieldOf freezeSl freezeAgg AV.cells AV.solid AV.isRef
attribute [local simp] w_i64 w_u64 w_u8 all_plain_int all_plain_bool all_plain_app pl_bool pl_int pl_str pl_nilp pl_nsl pl_nilI pl_nilF pl_msl pl_ref pl_isl pl_fsl pl_agg take_map_len nat_not_neg int_beq int_bne Int.natCast_inj all_pc_bool all_pc_int all_take_bool all_drop_bool all_take_int all_drop_int
attribute [local simp] setR_int setR_bool setR_zero setR_succ repl_int repl_bool ite_yes ite_no List.getElem?_cons_zero List.getElem?_cons_succ List.getElem?_nil
structure Slot where
  glyph : Int
  fg : Int
  flash : Bool
  invert : Bool
  high : Int
  wide : Int
  mark : Bool
  bg : Int
  under : Bool
  conceal : Bool
  deriving DecidableEq
def Slot.enc (s : Slot) : List AV := [.int .i64 s.glyph, .int .i64 s.fg, .bool s.flash, .bool s.invert, .int .i64 s.high, .int .i64 s.wide, .bool s.mark, .int .i64 s.bg, .bool s.under, .bool s.conceal]
theorem Slot.len (s : Slot) : s.enc.length = 10 := rfl
theorem Slot.flen (xs : List Slot) : (flat Slot.enc xs).length = xs.length * 10 := flt_len Slot.len xs
theorem Slot.pl (xs : List Slot) : (flat Slot.enc xs).all AV.plain = true := flt_plain (fun _ => rfl) xs
theorem Slot.rd {xs : List Slot} {i : Nat} (h : i < xs.length) : ((flat Slot.enc xs).drop (i * 10)).take 10 = [.int .i64 xs[i].glyph, .int .i64 xs[i].fg, .bool xs[i].flash, .bool xs[i].invert, .int .i64 xs[i].high, .int .i64 xs[i].wide, .bool xs[i].mark, .int .i64 xs[i].bg, .bool xs[i].under, .bool xs[i].conceal] := flt_rd Slot.len h
theorem Slot.g0 {xs : List Slot} {i : Nat} (h : i < xs.length) : (flat Slot.enc xs)[i * 10]? = some (.int .i64 xs[i].glyph) := by simpa [Slot.enc] using flt_get (k := 0) Slot.len h (by omega)
theorem Slot.g1 {xs : List Slot} {i : Nat} (h : i < xs.length) : (flat Slot.enc xs)[i * 10 + 1]? = some (.int .i64 xs[i].fg) := flt_get Slot.len h (by omega)
theorem Slot.g2 {xs : List Slot} {i : Nat} (h : i < xs.length) : (flat Slot.enc xs)[i * 10 + 2]? = some (.bool xs[i].flash) := flt_get Slot.len h (by omega)
theorem Slot.g3 {xs : List Slot} {i : Nat} (h : i < xs.length) : (flat Slot.enc xs)[i * 10 + 3]? = some (.bool xs[i].invert) := flt_get Slot.len h (by omega)
theorem Slot.g4 {xs : List Slot} {i : Nat} (h : i < xs.length) : (flat Slot.enc xs)[i * 10 + 4]? = some (.int .i64 xs[i].high) := flt_get Slot.len h (by omega)
theorem Slot.g5 {xs : List Slot} {i : Nat} (h : i < xs.length) : (flat Slot.enc xs)[i * 10 + 5]? = some (.int .i64 xs[i].wide) := flt_get Slot.len h (by omega)
theorem Slot.g6 {xs : List Slot} {i : Nat} (h : i < xs.length) : (flat Slot.enc xs)[i * 10 + 6]? = some (.bool xs[i].mark) := flt_get Slot.len h (by omega)
theorem Slot.g7 {xs : List Slot} {i : Nat} (h : i < xs.length) : (flat Slot.enc xs)[i * 10 + 7]? = some (.int .i64 xs[i].bg) := flt_get Slot.len h (by omega)
theorem Slot.g8 {xs : List Slot} {i : Nat} (h : i < xs.length) : (flat Slot.enc xs)[i * 10 + 8]? = some (.bool xs[i].under) := flt_get Slot.len h (by omega)
theorem Slot.g9 {xs : List Slot} {i : Nat} (h : i < xs.length) : (flat Slot.enc xs)[i * 10 + 9]? = some (.bool xs[i].conceal) := flt_get Slot.len h (by omega)
theorem Slot.put {xs : List Slot} {i : Nat} {a0 : Int} {a1 : Int} {a2 : Bool} {a3 : Bool} {a4 : Int} {a5 : Int} {a6 : Bool} {a7 : Int} {a8 : Bool} {a9 : Bool} (h : i < xs.length) : setR (flat Slot.enc xs) (i * 10) [.int .i64 a0, .int .i64 a1, .bool a2, .bool a3, .int .i64 a4, .int .i64 a5, .bool a6, .int .i64 a7, .bool a8, .bool a9] = flat Slot.enc (xs.set i ⟨a0, a1, a2, a3, a4, a5, a6, a7, a8, a9⟩) := flt_set Slot.len (y := ⟨a0, a1, a2, a3, a4, a5, a6, a7, a8, a9⟩) h
theorem Slot.pute {xs : List Slot} {i : Nat} {y : Slot} (h : i < xs.length) : setR (flat Slot.enc xs) (i * 10) y.enc = flat Slot.enc (xs.set i y) := flt_set Slot.len h
theorem Slot.enc_eq {a0 : Int} {a1 : Int} {a2 : Bool} {a3 : Bool} {a4 : Int} {a5 : Int} {a6 : Bool} {a7 : Int} {a8 : Bool} {a9 : Bool} : Slot.enc ⟨a0, a1, a2, a3, a4, a5, a6, a7, a8, a9⟩ = [.int .i64 a0, .int .i64 a1, .bool a2, .bool a3, .int .i64 a4, .int .i64 a5, .bool a6, .int .i64 a7, .bool a8, .bool a9] := rfl
theorem Slot.s0 {xs : List Slot} {i : Nat} {v : Int} (h : i < xs.length) : setR (flat Slot.enc xs) (i * 10) [.int .i64 v] = flat Slot.enc (xs.set i { xs[i] with glyph := v }) := by simpa using flt_setk (k := 0) Slot.len h (by simp) (show setR (Slot.enc xs[i]) 0 [.int .i64 v] = Slot.enc { xs[i] with glyph := v } from rfl)
theorem Slot.s1 {xs : List Slot} {i : Nat} {v : Int} (h : i < xs.length) : setR (flat Slot.enc xs) (i * 10 + 1) [.int .i64 v] = flat Slot.enc (xs.set i { xs[i] with fg := v }) := flt_setk (k := 1) Slot.len h (by simp) (show setR (Slot.enc xs[i]) 1 [.int .i64 v] = Slot.enc { xs[i] with fg := v } from rfl)
theorem Slot.s2 {xs : List Slot} {i : Nat} {v : Bool} (h : i < xs.length) : setR (flat Slot.enc xs) (i * 10 + 2) [.bool v] = flat Slot.enc (xs.set i { xs[i] with flash := v }) := flt_setk (k := 2) Slot.len h (by simp) (show setR (Slot.enc xs[i]) 2 [.bool v] = Slot.enc { xs[i] with flash := v } from rfl)
theorem Slot.s3 {xs : List Slot} {i : Nat} {v : Bool} (h : i < xs.length) : setR (flat Slot.enc xs) (i * 10 + 3) [.bool v] = flat Slot.enc (xs.set i { xs[i] with invert := v }) := flt_setk (k := 3) Slot.len h (by simp) (show setR (Slot.enc xs[i]) 3 [.bool v] = Slot.enc { xs[i] with invert := v } from rfl)
theorem Slot.s4 {xs : List Slot} {i : Nat} {v : Int} (h : i < xs.length) : setR (flat Slot.enc xs) (i * 10 + 4) [.int .i64 v] = flat Slot.enc (xs.set i { xs[i] with high := v }) := flt_setk (k := 4) Slot.len h (by simp) (show setR (Slot.enc xs[i]) 4 [.int .i64 v] = Slot.enc { xs[i] with high := v } from rfl)
theorem Slot.s5 {xs : List Slot} {i : Nat} {v : Int} (h : i < xs.length) : setR (flat Slot.enc xs) (i * 10 + 5) [.int .i64 v] = flat Slot.enc (xs.set i { xs[i] with wide := v }) := flt_setk (k := 5) Slot.len h (by simp) (show setR (Slot.enc xs[i]) 5 [.int .i64 v] = Slot.enc { xs[i] with wide := v } from rfl)
theorem Slot.s6 {xs : List Slot} {i : Nat} {v : Bool} (h : i < xs.length) : setR (flat Slot.enc xs) (i * 10 + 6) [.bool v] = flat Slot.enc (xs.set i { xs[i] with mark := v }) := flt_setk (k := 6) Slot.len h (by simp) (show setR (Slot.enc xs[i]) 6 [.bool v] = Slot.enc { xs[i] with mark := v } from rfl)
theorem Slot.s7 {xs : List Slot} {i : Nat} {v : Int} (h : i < xs.length) : setR (flat Slot.enc xs) (i * 10 + 7) [.int .i64 v] = flat Slot.enc (xs.set i { xs[i] with bg := v }) := flt_setk (k := 7) Slot.len h (by simp) (show setR (Slot.enc xs[i]) 7 [.int .i64 v] = Slot.enc { xs[i] with bg := v } from rfl)
theorem Slot.s8 {xs : List Slot} {i : Nat} {v : Bool} (h : i < xs.length) : setR (flat Slot.enc xs) (i * 10 + 8) [.bool v] = flat Slot.enc (xs.set i { xs[i] with under := v }) := flt_setk (k := 8) Slot.len h (by simp) (show setR (Slot.enc xs[i]) 8 [.bool v] = Slot.enc { xs[i] with under := v } from rfl)
theorem Slot.s9 {xs : List Slot} {i : Nat} {v : Bool} (h : i < xs.length) : setR (flat Slot.enc xs) (i * 10 + 9) [.bool v] = flat Slot.enc (xs.set i { xs[i] with conceal := v }) := flt_setk (k := 9) Slot.len h (by simp) (show setR (Slot.enc xs[i]) 9 [.bool v] = Slot.enc { xs[i] with conceal := v } from rfl)
def Slot.none : Slot := ⟨0, 0, false, false, 0, 0, false, 0, false, false⟩
theorem Slot.zero (n : Nat) : repl n [.int .i64 0, .int .i64 0, .bool false, .bool false, .int .i64 0, .int .i64 0, .bool false, .int .i64 0, .bool false, .bool false] = flat Slot.enc (List.replicate n Slot.none) := flt_repl n Slot.none [.int .i64 0, .int .i64 0, .bool false, .bool false, .int .i64 0, .int .i64 0, .bool false, .int .i64 0, .bool false, .bool false] rfl
def Slot.ok (s : Slot) : Prop := (Lit.int .i64 s.glyph).wf = true ∧ (Lit.int .i64 s.fg).wf = true ∧ (Lit.int .i64 s.high).wf = true ∧ (Lit.int .i64 s.wide).wf = true ∧ (Lit.int .i64 s.bg).wf = true
theorem Slot.of {n : Nat} {fs : List (Nat × Nat)} {cs : List AV} (h : zipShp (Shp L (n + 1)) fs cs) (hs : fs.map (dsc L) = [some (.int .i64), some (.int .i64), some .bool, some .bool, some (.int .i64), some (.int .i64), some .bool, some (.int .i64), some .bool, some .bool]) : ∃ s : Slot, cs = s.enc ∧ s.ok := by
  obtain ⟨x0, gs, r, rfl, w0, h, hs⟩ := zipd_int h hs
  obtain ⟨x1, gs, r, rfl, w1, h, hs⟩ := zipd_int h hs
  obtain ⟨x2, gs, r, rfl, h, hs⟩ := zipd_bool h hs
  obtain ⟨x3, gs, r, rfl, h, hs⟩ := zipd_bool h hs
  obtain ⟨x4, gs, r, rfl, w4, h, hs⟩ := zipd_int h hs
  obtain ⟨x5, gs, r, rfl, w5, h, hs⟩ := zipd_int h hs
  obtain ⟨x6, gs, r, rfl, h, hs⟩ := zipd_bool h hs
  obtain ⟨x7, gs, r, rfl, w7, h, hs⟩ := zipd_int h hs
  obtain ⟨x8, gs, r, rfl, h, hs⟩ := zipd_bool h hs
  obtain ⟨x9, gs, r, rfl, h, hs⟩ := zipd_bool h hs
  obtain rfl := zipd_nil h hs
  exact ⟨⟨x0, x1, x2, x3, x4, x5, x6, x7, x8, x9⟩, rfl, ⟨w0, w1, w4, w5, w7⟩⟩
theorem Slot.parts {n e sz bt : Nat} {fs : List (Nat × Nat)} {z : List AV} (hl : L e = some ⟨.strct fs, sz, bt, z⟩) (hs : fs.map (dsc L) = [some (.int .i64), some (.int .i64), some .bool, some .bool, some (.int .i64), some (.int .i64), some .bool, some (.int .i64), some .bool, some .bool]) (ps : List (List AV)) (h : ∀ p ∈ ps, Shp L (n + 2) e p) : ∃ ys : List Slot, ps.flatten = flat Slot.enc ys ∧ ys.length = ps.length ∧ ∀ y ∈ ys, y.ok :=
  parts_flat (fun p hp => Slot.of (shp_strct hl hp) hs) ps h

structure Cell where
  glyph : Int
  fg : Int
  bg : Int
  flash : Bool
  conceal : Bool
  box : Bool
  under : Bool
  invert : Bool
  high : Int
  wide : Int
  deriving DecidableEq
def Cell.enc (s : Cell) : List AV := [.int .i64 s.glyph, .int .i64 s.fg, .int .i64 s.bg, .bool s.flash, .bool s.conceal, .bool s.box, .bool s.under, .bool s.invert, .int .i64 s.high, .int .i64 s.wide]
theorem Cell.len (s : Cell) : s.enc.length = 10 := rfl
theorem Cell.flen (xs : List Cell) : (flat Cell.enc xs).length = xs.length * 10 := flt_len Cell.len xs
theorem Cell.pl (xs : List Cell) : (flat Cell.enc xs).all AV.plain = true := flt_plain (fun _ => rfl) xs
theorem Cell.rd {xs : List Cell} {i : Nat} (h : i < xs.length) : ((flat Cell.enc xs).drop (i * 10)).take 10 = [.int .i64 xs[i].glyph, .int .i64 xs[i].fg, .int .i64 xs[i].bg, .bool xs[i].flash, .bool xs[i].conceal, .bool xs[i].box, .bool xs[i].under, .bool xs[i].invert, .int .i64 xs[i].high, .int .i64 xs[i].wide] := flt_rd Cell.len h
theorem Cell.g0 {xs : List Cell} {i : Nat} (h : i < xs.length) : (flat Cell.enc xs)[i * 10]? = some (.int .i64 xs[i].glyph) := by simpa [Cell.enc] using flt_get (k := 0) Cell.len h (by omega)
theorem Cell.g1 {xs : List Cell} {i : Nat} (h : i < xs.length) : (flat Cell.enc xs)[i * 10 + 1]? = some (.int .i64 xs[i].fg) := flt_get Cell.len h (by omega)
theorem Cell.g2 {xs : List Cell} {i : Nat} (h : i < xs.length) : (flat Cell.enc xs)[i * 10 + 2]? = some (.int .i64 xs[i].bg) := flt_get Cell.len h (by omega)
theorem Cell.g3 {xs : List Cell} {i : Nat} (h : i < xs.length) : (flat Cell.enc xs)[i * 10 + 3]? = some (.bool xs[i].flash) := flt_get Cell.len h (by omega)
theorem Cell.g4 {xs : List Cell} {i : Nat} (h : i < xs.length) : (flat Cell.enc xs)[i * 10 + 4]? = some (.bool xs[i].conceal) := flt_get Cell.len h (by omega)
theorem Cell.g5 {xs : List Cell} {i : Nat} (h : i < xs.length) : (flat Cell.enc xs)[i * 10 + 5]? = some (.bool xs[i].box) := flt_get Cell.len h (by omega)
theorem Cell.g6 {xs : List Cell} {i : Nat} (h : i < xs.length) : (flat Cell.enc xs)[i * 10 + 6]? = some (.bool xs[i].under) := flt_get Cell.len h (by omega)
theorem Cell.g7 {xs : List Cell} {i : Nat} (h : i < xs.length) : (flat Cell.enc xs)[i * 10 + 7]? = some (.bool xs[i].invert) := flt_get Cell.len h (by omega)
theorem Cell.g8 {xs : List Cell} {i : Nat} (h : i < xs.length) : (flat Cell.enc xs)[i * 10 + 8]? = some (.int .i64 xs[i].high) := flt_get Cell.len h (by omega)
theorem Cell.g9 {xs : List Cell} {i : Nat} (h : i < xs.length) : (flat Cell.enc xs)[i * 10 + 9]? = some (.int .i64 xs[i].wide) := flt_get Cell.len h (by omega)
theorem Cell.put {xs : List Cell} {i : Nat} {a0 : Int} {a1 : Int} {a2 : Int} {a3 : Bool} {a4 : Bool} {a5 : Bool} {a6 : Bool} {a7 : Bool} {a8 : Int} {a9 : Int} (h : i < xs.length) : setR (flat Cell.enc xs) (i * 10) [.int .i64 a0, .int .i64 a1, .int .i64 a2, .bool a3, .bool a4, .bool a5, .bool a6, .bool a7, .int .i64 a8, .int .i64 a9] = flat Cell.enc (xs.set i ⟨a0, a1, a2, a3, a4, a5, a6, a7, a8, a9⟩) := flt_set Cell.len (y := ⟨a0, a1, a2, a3, a4, a5, a6, a7, a8, a9⟩) h
theorem Cell.pute {xs : List Cell} {i : Nat} {y : Cell} (h : i < xs.length) : setR (flat Cell.enc xs) (i * 10) y.enc = flat Cell.enc (xs.set i y) := flt_set Cell.len h
theorem Cell.enc_eq {a0 : Int} {a1 : Int} {a2 : Int} {a3 : Bool} {a4 : Bool} {a5 : Bool} {a6 : Bool} {a7 : Bool} {a8 : Int} {a9 : Int} : Cell.enc ⟨a0, a1, a2, a3, a4, a5, a6, a7, a8, a9⟩ = [.int .i64 a0, .int .i64 a1, .int .i64 a2, .bool a3, .bool a4, .bool a5, .bool a6, .bool a7, .int .i64 a8, .int .i64 a9] := rfl
theorem Cell.s0 {xs : List Cell} {i : Nat} {v : Int} (h : i < xs.length) : setR (flat Cell.enc xs) (i * 10) [.int .i64 v] = flat Cell.enc (xs.set i { xs[i] with glyph := v }) := by simpa using flt_setk (k := 0) Cell.len h (by simp) (show setR (Cell.enc xs[i]) 0 [.int .i64 v] = Cell.enc { xs[i] with glyph := v } from rfl)
theorem Cell.s1 {xs : List Cell} {i : Nat} {v : Int} (h : i < xs.length) : setR (flat Cell.enc xs) (i * 10 + 1) [.int .i64 v] = flat Cell.enc (xs.set i { xs[i] with fg := v }) := flt_setk (k := 1) Cell.len h (by simp) (show setR (Cell.enc xs[i]) 1 [.int .i64 v] = Cell.enc { xs[i] with fg := v } from rfl)
theorem Cell.s2 {xs : List Cell} {i : Nat} {v : Int} (h : i < xs.length) : setR (flat Cell.enc xs) (i * 10 + 2) [.int .i64 v] = flat Cell.enc (xs.set i { xs[i] with bg := v }) := flt_setk (k := 2) Cell.len h (by simp) (show setR (Cell.enc xs[i]) 2 [.int .i64 v] = Cell.enc { xs[i] with bg := v } from rfl)
theorem Cell.s3 {xs : List Cell} {i : Nat} {v : Bool} (h : i < xs.length) : setR (flat Cell.enc xs) (i * 10 + 3) [.bool v] = flat Cell.enc (xs.set i { xs[i] with flash := v }) := flt_setk (k := 3) Cell.len h (by simp) (show setR (Cell.enc xs[i]) 3 [.bool v] = Cell.enc { xs[i] with flash := v } from rfl)
theorem Cell.s4 {xs : List Cell} {i : Nat} {v : Bool} (h : i < xs.length) : setR (flat Cell.enc xs) (i * 10 + 4) [.bool v] = flat Cell.enc (xs.set i { xs[i] with conceal := v }) := flt_setk (k := 4) Cell.len h (by simp) (show setR (Cell.enc xs[i]) 4 [.bool v] = Cell.enc { xs[i] with conceal := v } from rfl)
theorem Cell.s5 {xs : List Cell} {i : Nat} {v : Bool} (h : i < xs.length) : setR (flat Cell.enc xs) (i * 10 + 5) [.bool v] = flat Cell.enc (xs.set i { xs[i] with box := v }) := flt_setk (k := 5) Cell.len h (by simp) (show setR (Cell.enc xs[i]) 5 [.bool v] = Cell.enc { xs[i] with box := v } from rfl)
theorem Cell.s6 {xs : List Cell} {i : Nat} {v : Bool} (h : i < xs.length) : setR (flat Cell.enc xs) (i * 10 + 6) [.bool v] = flat Cell.enc (xs.set i { xs[i] with under := v }) := flt_setk (k := 6) Cell.len h (by simp) (show setR (Cell.enc xs[i]) 6 [.bool v] = Cell.enc { xs[i] with under := v } from rfl)
theorem Cell.s7 {xs : List Cell} {i : Nat} {v : Bool} (h : i < xs.length) : setR (flat Cell.enc xs) (i * 10 + 7) [.bool v] = flat Cell.enc (xs.set i { xs[i] with invert := v }) := flt_setk (k := 7) Cell.len h (by simp) (show setR (Cell.enc xs[i]) 7 [.bool v] = Cell.enc { xs[i] with invert := v } from rfl)
theorem Cell.s8 {xs : List Cell} {i : Nat} {v : Int} (h : i < xs.length) : setR (flat Cell.enc xs) (i * 10 + 8) [.int .i64 v] = flat Cell.enc (xs.set i { xs[i] with high := v }) := flt_setk (k := 8) Cell.len h (by simp) (show setR (Cell.enc xs[i]) 8 [.int .i64 v] = Cell.enc { xs[i] with high := v } from rfl)
theorem Cell.s9 {xs : List Cell} {i : Nat} {v : Int} (h : i < xs.length) : setR (flat Cell.enc xs) (i * 10 + 9) [.int .i64 v] = flat Cell.enc (xs.set i { xs[i] with wide := v }) := flt_setk (k := 9) Cell.len h (by simp) (show setR (Cell.enc xs[i]) 9 [.int .i64 v] = Cell.enc { xs[i] with wide := v } from rfl)
def Cell.none : Cell := ⟨0, 0, 0, false, false, false, false, false, 0, 0⟩
theorem Cell.zero (n : Nat) : repl n [.int .i64 0, .int .i64 0, .int .i64 0, .bool false, .bool false, .bool false, .bool false, .bool false, .int .i64 0, .int .i64 0] = flat Cell.enc (List.replicate n Cell.none) := flt_repl n Cell.none [.int .i64 0, .int .i64 0, .int .i64 0, .bool false, .bool false, .bool false, .bool false, .bool false, .int .i64 0, .int .i64 0] rfl
def Cell.ok (s : Cell) : Prop := (Lit.int .i64 s.glyph).wf = true ∧ (Lit.int .i64 s.fg).wf = true ∧ (Lit.int .i64 s.bg).wf = true ∧ (Lit.int .i64 s.high).wf = true ∧ (Lit.int .i64 s.wide).wf = true
theorem Cell.of {n : Nat} {fs : List (Nat × Nat)} {cs : List AV} (h : zipShp (Shp L (n + 1)) fs cs) (hs : fs.map (dsc L) = [some (.int .i64), some (.int .i64), some (.int .i64), some .bool, some .bool, some .bool, some .bool, some .bool, some (.int .i64), some (.int .i64)]) : ∃ s : Cell, cs = s.enc ∧ s.ok := by
  obtain ⟨x0, gs, r, rfl, w0, h, hs⟩ := zipd_int h hs
  obtain ⟨x1, gs, r, rfl, w1, h, hs⟩ := zipd_int h hs
  obtain ⟨x2, gs, r, rfl, w2, h, hs⟩ := zipd_int h hs
  obtain ⟨x3, gs, r, rfl, h, hs⟩ := zipd_bool h hs
  obtain ⟨x4, gs, r, rfl, h, hs⟩ := zipd_bool h hs
  obtain ⟨x5, gs, r, rfl, h, hs⟩ := zipd_bool h hs
  obtain ⟨x6, gs, r, rfl, h, hs⟩ := zipd_bool h hs
  obtain ⟨x7, gs, r, rfl, h, hs⟩ := zipd_bool h hs
  obtain ⟨x8, gs, r, rfl, w8, h, hs⟩ := zipd_int h hs
  obtain ⟨x9, gs, r, rfl, w9, h, hs⟩ := zipd_int h hs
  obtain rfl := zipd_nil h hs
  exact ⟨⟨x0, x1, x2, x3, x4, x5, x6, x7, x8, x9⟩, rfl, ⟨w0, w1, w2, w8, w9⟩⟩
theorem Cell.parts {n e sz bt : Nat} {fs : List (Nat × Nat)} {z : List AV} (hl : L e = some ⟨.strct fs, sz, bt, z⟩) (hs : fs.map (dsc L) = [some (.int .i64), some (.int .i64), some (.int .i64), some .bool, some .bool, some .bool, some .bool, some .bool, some (.int .i64), some (.int .i64)]) (ps : List (List AV)) (h : ∀ p ∈ ps, Shp L (n + 2) e p) : ∃ ys : List Cell, ps.flatten = flat Cell.enc ys ∧ ys.length = ps.length ∧ ∀ y ∈ ys, y.ok :=
  parts_flat (fun p hp => Cell.of (shp_strct hl hp) hs) ps h

end Go.Proofs.Ytkienchmbfhigaa
