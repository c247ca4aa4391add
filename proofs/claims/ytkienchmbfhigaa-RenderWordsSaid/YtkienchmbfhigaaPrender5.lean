/- Functions of the seat, worked off from their code: chunk render5. Written by program (tools/mkp.py) from wip/fn. -/
import Derived.Test.YtkienchmbfhigaaSimT
import Derived.Test.YtkienchmbfhigaaSimY
import Derived.Test.YtkienchmbfhigaaPrender3
import Derived.Test.YtkienchmbfhigaaPrender4
import Derived.Test.YtkienchmbfhigaaPnum
set_option maxRecDepth 100000
set_option maxHeartbeats 40000000
set_option linter.unusedSimpArgs false
set_option linter.unusedVariables false
namespace Go.Proofs.Ytkienchmbfhigaa
open Go Go.Sim
attribute [local irreducible] chk brX getX strX setX takeX normX fillX lendX partsX opsX callK lentK lentR giveX adoptX resX joinX headX loopX seqK blkK regK finX exOps ex eqT
attribute [local simp] setR_int setR_bool setR_zero setR_succ repl_int repl_bool List.getElem?_cons_zero List.getElem?_cons_succ List.getElem?_nil w_i64 w_u64 w_u8 bAnd_u8 bOr_u8 bXor_u8 bAndNot_u8 bShl_u8 wrap_u8_range all_plain_int all_plain_bool all_plain_app pl_bool pl_int pl_str pl_nilp pl_nsl pl_nilI pl_nilF take_map_len AV.cells TI.isAgg
attribute [local simp] Cell.flen Cell.rd Cell.g0 Cell.g1 Cell.g2 Cell.g3 Cell.g4 Cell.g5 Cell.g6 Cell.g7 Cell.g8 Cell.g9 Cell.put Cell.pute Cell.s0 Cell.s1 Cell.s2 Cell.s3 Cell.s4 Cell.s5 Cell.s6 Cell.s7 Cell.s8 Cell.s9 Cell.zero Cell.enc Tr.flen Tr.rd Tr.g0 Tr.g1 Tr.g2 Tr.put Tr.pute Tr.s0 Tr.s1 Tr.s2 Tr.zero Tr.enc Sp.flen Sp.rd Sp.g0 Sp.g1 Sp.g2 Sp.put Sp.pute Sp.s0 Sp.s1 Sp.s2 Sp.zero Sp.enc Hd.flen Hd.rd Hd.g0 Hd.g1 Hd.g2 Hd.g3 Hd.g4 Hd.g5 Hd.g6 Hd.g7 Hd.g8 Hd.g9 Hd.g10 Hd.g11 Hd.g12 Hd.g13 Hd.g14 Hd.put Hd.pute Hd.s0 Hd.s1 Hd.s2 Hd.s3 Hd.s4 Hd.s5 Hd.s6 Hd.s7 Hd.s8 Hd.s9 Hd.s10 Hd.s11 Hd.s12 Hd.s13 Hd.s14 Hd.zero Hd.enc

theorem t32_0 : (texts (List.replicate 1000 bk) 25)[0]? = some (.str (strOfNums (List.replicate 40 32))) := by
  have h : rowS (List.replicate 1000 bk) 0 = List.replicate 40 32 := by
    unfold rowS
    rw [List.drop_replicate, List.take_replicate, List.map_replicate]
    rfl
  rw [← h]; rfl
theorem t32_24 : (texts (List.replicate 1000 bk) 25)[24]? = some (.str (strOfNums (List.replicate 40 32))) := by
  have h : rowS (List.replicate 1000 bk) 24 = List.replicate 40 32 := by
    unfold rowS
    rw [List.drop_replicate, List.take_replicate, List.map_replicate]
    rfl
  rw [← h]; rfl
theorem s32_size : (strOfNums (List.replicate 40 32)).size = 40 := by decide +kernel
theorem s32_39 : (strOfNums (List.replicate 40 32))[39]? = some 32 := by decide +kernel
def sp40 : ByteArray := strOfNums (List.replicate 40 32)
attribute [local irreducible] texts sp40
theorem t_law17_first (tag : Nat) : callω L T 8 tag [] [] = some (.bool true, []) := by
  rw [call_ex (show T 8 = some (.code a8) from rfl) rfl rfl]
  have te := t_Empty (tag + 1)
  have tt := t_Text (tag + 1) (List.replicate 1000 bk) (by simp) (fun c hc => by rw [(List.mem_replicate.1 hc).2]; exact ⟨by decide, by decide⟩)
  have h0 := t32_0
  have h24 := t32_24
  have hs := s32_size
  have hi := s32_39
  rw [show strOfNums (List.replicate 40 32) = sp40 from by unfold sp40; rfl] at h0 h24 hs hi
  have lt := texts_len (List.replicate 1000 bk) 25
  generalize texts (List.replicate 1000 bk) 25 = tx at *
  generalize flat Cell.enc (List.replicate 1000 bk) = cg at *
  generalize sp40 = s at *
  (have fA := And.intro @h0 (And.intro @h24 (And.intro @hs (And.intro @hi @lt))); have c1 := te; have c2 := tt; refine gox ?_; clear fA c1 c2)
  (refine finx ?_; try with_reducible rfl)
  try rfl
structure PlainS (s : At) (cc : Bool) : Prop where
  fg : s.fg = 7
  bg : s.bg = 0
  mo : s.mosaic = false
  ho : s.hold = false
  fl : s.flash = false
  bx : s.box = false
  db : s.double = false
  co : s.conceal = cc
def cellL (g : Int) (cc : Bool) : Cell := ⟨g, 7, 0, false, cc, false, false, false, 0, 0⟩
theorem step_letter {s : At} {cc : Bool} (h : PlainS s cc) {b o : Int} (hb : 32 ≤ bAnd .u8 b 127) : PlainS (stepF s b o).1 cc ∧ (stepF s b o).2 = cellL (charI o (bAnd .u8 b 127)) cc := by
  generalize hc : bAnd .u8 b 127 = c at hb
  have hat : atF s c = s := by
    unfold atF
    rw [if_neg (by omega), if_neg (by omega), if_neg (by omega), if_neg (by omega), if_neg (by omega), if_neg (by omega), if_neg (by omega), if_neg (by omega)]
  have hg : glyphF s c o = (charI o c, s.held) := by
    unfold glyphF
    rw [if_neg (by omega), h.mo]; simp
  have hbe : ∀ t : At, behindF t c = t := fun t => by
    unfold behindF
    rw [if_neg (by omega), if_neg (by omega), if_neg (by omega), if_neg (by omega), if_neg (by omega)]
  have e : stepF s b o = ({ behindF { atF s c with held := (glyphF (atF s c) c o).2 } c with last := c }, cellF (atF s c) (glyphF (atF s c) c o).1) := by rw [← hc]; rfl
  rw [e, hat, hg, hbe]
  refine ⟨⟨h.fg, h.bg, h.mo, h.ho, h.fl, h.bx, h.db, h.co⟩, ?_⟩
  simp [cellF, cellL, h.fg, h.bg, h.fl, h.co, h.bx, h.db]
theorem step_conceal {s : At} {cc : Bool} (h : PlainS s cc) {b o : Int} (hb : bAnd .u8 b 127 = 24) : PlainS (stepF s b o).1 true ∧ (stepF s b o).2 = cellL 32 true := by
  have e : stepF s b o = ({ behindF { atF s 24 with held := (glyphF (atF s 24) 24 o).2 } 24 with last := 24 }, cellF (atF s 24) (glyphF (atF s 24) 24 o).1) := by rw [← hb]; rfl
  have hat : atF s 24 = { s with conceal := true } := rfl
  have hg : glyphF (atF s 24) 24 o = (32, s.held) := by
    rw [hat]; unfold glyphF
    simp [h.ho]
  rw [e, hg, hat]
  refine ⟨⟨h.fg, h.bg, h.mo, h.ho, h.fl, h.bx, h.db, rfl⟩, ?_⟩
  simp [cellF, cellL, h.fg, h.bg, h.fl, h.bx, h.db]
theorem start_plain : PlainS At.start false := ⟨rfl, rfl, rfl, rfl, rfl, rfl, rfl, rfl⟩
def Pg.setCell (p : Pg) (r k : Nat) (v : Int) : Pg := { p with rows := p.rows.set (r * 40 + k) v }
theorem Pg.setCell_ok {p : Pg} (h : p.Ok) {r k : Nat} {v : Int} : (p.setCell r k v).Ok := ⟨by simp [Pg.setCell, h.rows], h.there, h.links⟩
theorem Pg.put_cell {p : Pg} (h : p.Ok) {x : AV} {r k : Nat} {v : Int} (hr : r < 25) (hk : k < 40) : setR (p.enc x) (15 + r * 40 + k) [.int .u8 v] = (p.setCell r k v).enc x := by
  unfold Pg.enc
  rw [show 15 + r * 40 + k = 15 + (r * 40 + k) by omega, setR_app_r (n := 15) (Hd.len _), setR_app_l (by rw [Pg.rl h]; simp; omega), setR_int (by rw [h.rows]; omega)]
  rfl
def Pg.withH (p : Pg) (c1 c2 c3 c6 : Bool) : Pg := { p with hd := { p.hd with c1 := c1, c2 := c2, c3 := c3, c6 := c6 } }
theorem noTall (p : Pg) (hn : ∀ r : Nat, r < 25 → tallF (lineF p r) (regF p) 40 = false) : ∀ r, r < 25 → upF p r = false
  | 0, _ => rfl
  | r + 1, hr => by
    unfold upF
    rw [noTall p hn r (by omega), if_neg (by decide)]
    split
    · rfl
    · exact hn r (by omega)
theorem grid_noTall {p : Pg} (hn : ∀ r : Nat, r < 25 → tallF (lineF p r) (regF p) 40 = false) {r : Nat} (hr : r < 25) : gridR p r = if r = 0 ∨ 23 < r then (rowR p r).map fl0 else rowR p r := by
  have hu := noTall p hn r hr
  cases r with
  | zero => rw [if_pos (Or.inl rfl)]; rfl
  | succ r =>
    unfold gridR
    rw [hu, if_neg (by decide)]
    by_cases h : 23 < r + 1
    · rw [if_pos h, if_pos (Or.inr h)]
    · rw [if_neg h, if_neg (by omega)]

end Go.Proofs.Ytkienchmbfhigaa
