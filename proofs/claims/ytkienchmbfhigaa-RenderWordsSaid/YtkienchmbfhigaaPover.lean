/- Functions of the seat, worked off from their code: chunk over. Written by program (tools/mkp.py) from wip/fn. -/
import Derived.Test.YtkienchmbfhigaaSimT
import Derived.Test.YtkienchmbfhigaaSimY
import Derived.Test.YtkienchmbfhigaaPaccent2
import Derived.Test.YtkienchmbfhigaaPtrs
set_option maxRecDepth 100000
set_option maxHeartbeats 40000000
set_option linter.unusedSimpArgs false
set_option linter.unusedVariables false
namespace Go.Proofs.Ytkienchmbfhigaa
open Go Go.Sim
attribute [local irreducible] chk brX getX strX setX takeX normX fillX lendX partsX opsX callK lentK lentR giveX adoptX resX joinX headX loopX seqK blkK regK finX exOps ex eqT
attribute [local simp] setR_int setR_bool setR_zero setR_succ repl_int repl_bool List.getElem?_cons_zero List.getElem?_cons_succ List.getElem?_nil w_i64 w_u64 w_u8 bAnd_u8 bOr_u8 bXor_u8 bAndNot_u8 bShl_u8 wrap_u8_range all_plain_int all_plain_bool all_plain_app pl_bool pl_int pl_str pl_nilp pl_nsl pl_nilI pl_nilF take_map_len AV.cells TI.isAgg
structure Sp where
  row : Int
  col : Int
  glyph : Int
  deriving DecidableEq
def Sp.enc (s : Sp) : List AV := [.int .i64 s.row, .int .i64 s.col, .int .i64 s.glyph]
theorem Sp.len (s : Sp) : s.enc.length = 3 := rfl
theorem Sp.flen (xs : List Sp) : (flat Sp.enc xs).length = xs.length * 3 := flt_len Sp.len xs
theorem Sp.pl (xs : List Sp) : (flat Sp.enc xs).all AV.plain = true := flt_plain (fun _ => rfl) xs
theorem Sp.rd {xs : List Sp} {i : Nat} (h : i < xs.length) : ((flat Sp.enc xs).drop (i * 3)).take 3 = [.int .i64 xs[i].row, .int .i64 xs[i].col, .int .i64 xs[i].glyph] := flt_rd Sp.len h
theorem Sp.g0 {xs : List Sp} {i : Nat} (h : i < xs.length) : (flat Sp.enc xs)[i * 3]? = some (.int .i64 xs[i].row) := by simpa [Sp.enc] using flt_get (k := 0) Sp.len h (by omega)
theorem Sp.g1 {xs : List Sp} {i : Nat} (h : i < xs.length) : (flat Sp.enc xs)[i * 3 + 1]? = some (.int .i64 xs[i].col) := flt_get Sp.len h (by omega)
theorem Sp.g2 {xs : List Sp} {i : Nat} (h : i < xs.length) : (flat Sp.enc xs)[i * 3 + 2]? = some (.int .i64 xs[i].glyph) := flt_get Sp.len h (by omega)
theorem Sp.put {xs : List Sp} {i : Nat} {a0 : Int} {a1 : Int} {a2 : Int} (h : i < xs.length) : setR (flat Sp.enc xs) (i * 3) [.int .i64 a0, .int .i64 a1, .int .i64 a2] = flat Sp.enc (xs.set i ⟨a0, a1, a2⟩) := flt_set Sp.len (y := ⟨a0, a1, a2⟩) h
theorem Sp.pute {xs : List Sp} {i : Nat} {y : Sp} (h : i < xs.length) : setR (flat Sp.enc xs) (i * 3) y.enc = flat Sp.enc (xs.set i y) := flt_set Sp.len h
theorem Sp.enc_eq {a0 : Int} {a1 : Int} {a2 : Int} : Sp.enc ⟨a0, a1, a2⟩ = [.int .i64 a0, .int .i64 a1, .int .i64 a2] := rfl
theorem Sp.s0 {xs : List Sp} {i : Nat} {v : Int} (h : i < xs.length) : setR (flat Sp.enc xs) (i * 3) [.int .i64 v] = flat Sp.enc (xs.set i { xs[i] with row := v }) := by simpa using flt_setk (k := 0) Sp.len h (by simp) (show setR (Sp.enc xs[i]) 0 [.int .i64 v] = Sp.enc { xs[i] with row := v } from rfl)
theorem Sp.s1 {xs : List Sp} {i : Nat} {v : Int} (h : i < xs.length) : setR (flat Sp.enc xs) (i * 3 + 1) [.int .i64 v] = flat Sp.enc (xs.set i { xs[i] with col := v }) := flt_setk (k := 1) Sp.len h (by simp) (show setR (Sp.enc xs[i]) 1 [.int .i64 v] = Sp.enc { xs[i] with col := v } from rfl)
theorem Sp.s2 {xs : List Sp} {i : Nat} {v : Int} (h : i < xs.length) : setR (flat Sp.enc xs) (i * 3 + 2) [.int .i64 v] = flat Sp.enc (xs.set i { xs[i] with glyph := v }) := flt_setk (k := 2) Sp.len h (by simp) (show setR (Sp.enc xs[i]) 2 [.int .i64 v] = Sp.enc { xs[i] with glyph := v } from rfl)
def Sp.none : Sp := ⟨0, 0, 0⟩
theorem Sp.zero (n : Nat) : repl n [.int .i64 0, .int .i64 0, .int .i64 0] = flat Sp.enc (List.replicate n Sp.none) := flt_repl n Sp.none [.int .i64 0, .int .i64 0, .int .i64 0] rfl
def Sp.ok (s : Sp) : Prop := (Lit.int .i64 s.row).wf = true ∧ (Lit.int .i64 s.col).wf = true ∧ (Lit.int .i64 s.glyph).wf = true
theorem Sp.of {n : Nat} {fs : List (Nat × Nat)} {cs : List AV} (h : zipShp (Shp L (n + 1)) fs cs) (hs : fs.map (dsc L) = [some (.int .i64), some (.int .i64), some (.int .i64)]) : ∃ s : Sp, cs = s.enc ∧ s.ok := by
  obtain ⟨x0, gs, r, rfl, w0, h, hs⟩ := zipd_int h hs
  obtain ⟨x1, gs, r, rfl, w1, h, hs⟩ := zipd_int h hs
  obtain ⟨x2, gs, r, rfl, w2, h, hs⟩ := zipd_int h hs
  obtain rfl := zipd_nil h hs
  exact ⟨⟨x0, x1, x2⟩, rfl, ⟨w0, w1, w2⟩⟩
theorem Sp.parts {n e sz bt : Nat} {fs : List (Nat × Nat)} {z : List AV} (hl : L e = some ⟨.strct fs, sz, bt, z⟩) (hs : fs.map (dsc L) = [some (.int .i64), some (.int .i64), some (.int .i64)]) (ps : List (List AV)) (h : ∀ p ∈ ps, Shp L (n + 2) e p) : ∃ ys : List Sp, ps.flatten = flat Sp.enc ys ∧ ys.length = ps.length ∧ ∀ y ∈ ys, y.ok :=
  parts_flat (fun p hp => Sp.of (shp_strct hl hp) hs) ps h

attribute [local simp] Tr.flen Tr.rd Tr.g0 Tr.g1 Tr.g2 Tr.put Tr.pute Tr.s0 Tr.s1 Tr.s2 Tr.zero Tr.enc Sp.flen Sp.rd Sp.g0 Sp.g1 Sp.g2 Sp.put Sp.pute Sp.s0 Sp.s1 Sp.s2 Sp.zero Sp.enc

def rowI (t : Tr) (old : Int) : Int := if t.mode = 4 ∧ t.addr = 40 then 24 else if t.mode = 4 then IntKind.i64.wrap (t.addr - 40) else if t.mode = 7 ∧ t.addr = 63 then 0 else old
def glyphI (t : Tr) : Int × Bool := if t.data < 32 ∨ t.addr < 0 then (0, false) else if t.mode = 15 then (signI (IntKind.u8.wrap t.data), true) else if 16 ≤ t.mode ∧ t.mode ≤ 31 then (joinI (t.mode - 16) (IntKind.u8.wrap t.data), true) else (0, false)
/-- The letters that triplets lay, from the row that was named last. -/
def spotsF : List Tr → Int → List Sp
  | [], _ => []
  | t :: ts, at' => if 40 ≤ t.addr then (if t.mode = 31 then [] else spotsF ts (rowI t at')) else if (glyphI t).2 = true ∧ at' ≠ -1 then ⟨at', t.addr, (glyphI t).1⟩ :: spotsF ts at' else spotsF ts at'
theorem t_row (tag : Nat) (t : Tr) (old : Int) : callω L T 40 tag [.agg t.enc, .int .i64 old] [none, none] = some (.int .i64 (rowI t old), [none, none]) := by
  rw [call_ex (show T 40 = some (.code a40) from rfl) rfl rfl]
  unfold rowI
  by_cases h1 : t.mode = 4
  · by_cases h2 : t.addr = 40
    · rw [if_pos ⟨h1, h2⟩]
      (refine gox ?_)
      (refine finx ?_; try with_reducible rfl)
      try rfl
    · rw [if_neg (fun x => h2 x.2), if_pos h1]
      (refine gox ?_)
      (refine finx ?_; try with_reducible rfl)
      try rfl
  rw [if_neg (fun x => h1 x.1), if_neg h1]
  by_cases h3 : t.mode = 7
  · by_cases h4 : t.addr = 63
    · rw [if_pos ⟨h3, h4⟩]
      (refine gox ?_)
      (refine finx ?_; try with_reducible rfl)
      try rfl
    · rw [if_neg (fun x => h4 x.2)]
      (refine gox ?_)
      (refine finx ?_; try with_reducible rfl)
      try rfl
  rw [if_neg (fun x => h3 x.1)]
  (refine gox ?_)
  (refine finx ?_; try with_reducible rfl)
  try rfl
theorem t_glyph (tag : Nat) (t : Tr) : callω L T 41 tag [.agg t.enc] [none] = some (.tup [.int .i64 (glyphI t).1, .bool (glyphI t).2], [none]) := by
  rw [call_ex (show T 41 = some (.code a41) from rfl) rfl rfl]
  unfold glyphI
  by_cases h1 : t.data < 32
  · rw [if_pos (Or.inl h1)]
    (refine gox ?_)
    (refine finx ?_; try with_reducible rfl)
    try rfl
  by_cases h2 : t.addr < 0
  · rw [if_pos (Or.inr h2)]
    (refine gox ?_)
    (refine finx ?_; try with_reducible rfl)
    try rfl
  rw [if_neg (by omega)]
  by_cases h3 : t.mode = 15
  · rw [if_pos h3]
    have tc := t_accent_Char (tag + 1) (IntKind.u8.wrap t.data) (wrap_u8_range _).1 (wrap_u8_range _).2
    (have c1 := tc; refine gox ?_; clear c1)
    (refine finx ?_; try with_reducible rfl)
    try rfl
  rw [if_neg h3]
  by_cases h4 : 16 ≤ t.mode ∧ t.mode ≤ 31
  · rw [if_pos h4]
    obtain ⟨h4, h5⟩ := h4
    have w : IntKind.i64.wrap (t.mode - 16) = t.mode - 16 := w_i64 (by omega) (by omega)
    have tj := t_accent_Join (tag + 1) (t.mode - 16) (IntKind.u8.wrap t.data) (wrap_u8_range _).1 (wrap_u8_range _).2
    rw [← w] at tj
    (have c1 := tj; refine gox ?_; clear c1)
    (refine finx ?_; try with_reducible rfl)
    all_goals try rw [w]
    all_goals try rfl
  rw [if_neg h4]
  by_cases h5 : 16 ≤ t.mode
  · have h6 : ¬ t.mode ≤ 31 := fun x => h4 ⟨h5, x⟩
    (refine gox ?_)
    (refine finx ?_; try with_reducible rfl)
    try rfl
  · (refine gox ?_)
    (refine finx ?_; try with_reducible rfl)
    try rfl

end Go.Proofs.Ytkienchmbfhigaa
