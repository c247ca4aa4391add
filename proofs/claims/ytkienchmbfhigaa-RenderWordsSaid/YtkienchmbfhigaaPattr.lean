/- Functions of the seat, worked off from their code: chunk attr. Written by program (tools/mkp.py) from wip/fn. -/
import Derived.Test.YtkienchmbfhigaaSimT
import Derived.Test.YtkienchmbfhigaaSimY
import Derived.Test.YtkienchmbfhigaaPlatin
import Derived.Test.YtkienchmbfhigaaPmosaic
import Derived.Test.YtkienchmbfhigaaPcells
set_option maxRecDepth 100000
set_option maxHeartbeats 40000000
set_option linter.unusedSimpArgs false
set_option linter.unusedVariables false
namespace Go.Proofs.Ytkienchmbfhigaa
open Go Go.Sim
attribute [local irreducible] chk brX getX strX setX takeX normX fillX lendX partsX opsX callK lentK lentR giveX adoptX resX joinX headX loopX seqK blkK regK finX exOps ex eqT
attribute [local simp] setR_int setR_bool setR_zero setR_succ repl_int repl_bool List.getElem?_cons_zero List.getElem?_cons_succ List.getElem?_nil w_i64 w_u64 w_u8 bAnd_u8 bOr_u8 bXor_u8 bAndNot_u8 bShl_u8 wrap_u8_range all_plain_int all_plain_bool all_plain_app pl_bool pl_int pl_str pl_nilp pl_nsl pl_nilI pl_nilF take_map_len AV.cells TI.isAgg
structure At where
  fg : Int
  bg : Int
  mosaic : Bool
  parted : Bool
  hold : Bool
  flash : Bool
  conceal : Bool
  box : Bool
  double : Bool
  held : Int
  last : Int
  deriving DecidableEq
def At.enc (s : At) : List AV := [.int .i64 s.fg, .int .i64 s.bg, .bool s.mosaic, .bool s.parted, .bool s.hold, .bool s.flash, .bool s.conceal, .bool s.box, .bool s.double, .int .i64 s.held, .int .u8 s.last]
theorem At.len (s : At) : s.enc.length = 11 := rfl
theorem At.flen (xs : List At) : (flat At.enc xs).length = xs.length * 11 := flt_len At.len xs
theorem At.pl (xs : List At) : (flat At.enc xs).all AV.plain = true := flt_plain (fun _ => rfl) xs
theorem At.rd {xs : List At} {i : Nat} (h : i < xs.length) : ((flat At.enc xs).drop (i * 11)).take 11 = [.int .i64 xs[i].fg, .int .i64 xs[i].bg, .bool xs[i].mosaic, .bool xs[i].parted, .bool xs[i].hold, .bool xs[i].flash, .bool xs[i].conceal, .bool xs[i].box, .bool xs[i].double, .int .i64 xs[i].held, .int .u8 xs[i].last] := flt_rd At.len h
theorem At.g0 {xs : List At} {i : Nat} (h : i < xs.length) : (flat At.enc xs)[i * 11]? = some (.int .i64 xs[i].fg) := by simpa [At.enc] using flt_get (k := 0) At.len h (by omega)
theorem At.g1 {xs : List At} {i : Nat} (h : i < xs.length) : (flat At.enc xs)[i * 11 + 1]? = some (.int .i64 xs[i].bg) := flt_get At.len h (by omega)
theorem At.g2 {xs : List At} {i : Nat} (h : i < xs.length) : (flat At.enc xs)[i * 11 + 2]? = some (.bool xs[i].mosaic) := flt_get At.len h (by omega)
theorem At.g3 {xs : List At} {i : Nat} (h : i < xs.length) : (flat At.enc xs)[i * 11 + 3]? = some (.bool xs[i].parted) := flt_get At.len h (by omega)
theorem At.g4 {xs : List At} {i : Nat} (h : i < xs.length) : (flat At.enc xs)[i * 11 + 4]? = some (.bool xs[i].hold) := flt_get At.len h (by omega)
theorem At.g5 {xs : List At} {i : Nat} (h : i < xs.length) : (flat At.enc xs)[i * 11 + 5]? = some (.bool xs[i].flash) := flt_get At.len h (by omega)
theorem At.g6 {xs : List At} {i : Nat} (h : i < xs.length) : (flat At.enc xs)[i * 11 + 6]? = some (.bool xs[i].conceal) := flt_get At.len h (by omega)
theorem At.g7 {xs : List At} {i : Nat} (h : i < xs.length) : (flat At.enc xs)[i * 11 + 7]? = some (.bool xs[i].box) := flt_get At.len h (by omega)
theorem At.g8 {xs : List At} {i : Nat} (h : i < xs.length) : (flat At.enc xs)[i * 11 + 8]? = some (.bool xs[i].double) := flt_get At.len h (by omega)
theorem At.g9 {xs : List At} {i : Nat} (h : i < xs.length) : (flat At.enc xs)[i * 11 + 9]? = some (.int .i64 xs[i].held) := flt_get At.len h (by omega)
theorem At.g10 {xs : List At} {i : Nat} (h : i < xs.length) : (flat At.enc xs)[i * 11 + 10]? = some (.int .u8 xs[i].last) := flt_get At.len h (by omega)
theorem At.put {xs : List At} {i : Nat} {a0 : Int} {a1 : Int} {a2 : Bool} {a3 : Bool} {a4 : Bool} {a5 : Bool} {a6 : Bool} {a7 : Bool} {a8 : Bool} {a9 : Int} {a10 : Int} (h : i < xs.length) : setR (flat At.enc xs) (i * 11) [.int .i64 a0, .int .i64 a1, .bool a2, .bool a3, .bool a4, .bool a5, .bool a6, .bool a7, .bool a8, .int .i64 a9, .int .u8 a10] = flat At.enc (xs.set i ⟨a0, a1, a2, a3, a4, a5, a6, a7, a8, a9, a10⟩) := flt_set At.len (y := ⟨a0, a1, a2, a3, a4, a5, a6, a7, a8, a9, a10⟩) h
theorem At.pute {xs : List At} {i : Nat} {y : At} (h : i < xs.length) : setR (flat At.enc xs) (i * 11) y.enc = flat At.enc (xs.set i y) := flt_set At.len h
theorem At.enc_eq {a0 : Int} {a1 : Int} {a2 : Bool} {a3 : Bool} {a4 : Bool} {a5 : Bool} {a6 : Bool} {a7 : Bool} {a8 : Bool} {a9 : Int} {a10 : Int} : At.enc ⟨a0, a1, a2, a3, a4, a5, a6, a7, a8, a9, a10⟩ = [.int .i64 a0, .int .i64 a1, .bool a2, .bool a3, .bool a4, .bool a5, .bool a6, .bool a7, .bool a8, .int .i64 a9, .int .u8 a10] := rfl
theorem At.s0 {xs : List At} {i : Nat} {v : Int} (h : i < xs.length) : setR (flat At.enc xs) (i * 11) [.int .i64 v] = flat At.enc (xs.set i { xs[i] with fg := v }) := by simpa using flt_setk (k := 0) At.len h (by simp) (show setR (At.enc xs[i]) 0 [.int .i64 v] = At.enc { xs[i] with fg := v } from rfl)
theorem At.s1 {xs : List At} {i : Nat} {v : Int} (h : i < xs.length) : setR (flat At.enc xs) (i * 11 + 1) [.int .i64 v] = flat At.enc (xs.set i { xs[i] with bg := v }) := flt_setk (k := 1) At.len h (by simp) (show setR (At.enc xs[i]) 1 [.int .i64 v] = At.enc { xs[i] with bg := v } from rfl)
theorem At.s2 {xs : List At} {i : Nat} {v : Bool} (h : i < xs.length) : setR (flat At.enc xs) (i * 11 + 2) [.bool v] = flat At.enc (xs.set i { xs[i] with mosaic := v }) := flt_setk (k := 2) At.len h (by simp) (show setR (At.enc xs[i]) 2 [.bool v] = At.enc { xs[i] with mosaic := v } from rfl)
theorem At.s3 {xs : List At} {i : Nat} {v : Bool} (h : i < xs.length) : setR (flat At.enc xs) (i * 11 + 3) [.bool v] = flat At.enc (xs.set i { xs[i] with parted := v }) := flt_setk (k := 3) At.len h (by simp) (show setR (At.enc xs[i]) 3 [.bool v] = At.enc { xs[i] with parted := v } from rfl)
theorem At.s4 {xs : List At} {i : Nat} {v : Bool} (h : i < xs.length) : setR (flat At.enc xs) (i * 11 + 4) [.bool v] = flat At.enc (xs.set i { xs[i] with hold := v }) := flt_setk (k := 4) At.len h (by simp) (show setR (At.enc xs[i]) 4 [.bool v] = At.enc { xs[i] with hold := v } from rfl)
theorem At.s5 {xs : List At} {i : Nat} {v : Bool} (h : i < xs.length) : setR (flat At.enc xs) (i * 11 + 5) [.bool v] = flat At.enc (xs.set i { xs[i] with flash := v }) := flt_setk (k := 5) At.len h (by simp) (show setR (At.enc xs[i]) 5 [.bool v] = At.enc { xs[i] with flash := v } from rfl)
theorem At.s6 {xs : List At} {i : Nat} {v : Bool} (h : i < xs.length) : setR (flat At.enc xs) (i * 11 + 6) [.bool v] = flat At.enc (xs.set i { xs[i] with conceal := v }) := flt_setk (k := 6) At.len h (by simp) (show setR (At.enc xs[i]) 6 [.bool v] = At.enc { xs[i] with conceal := v } from rfl)
theorem At.s7 {xs : List At} {i : Nat} {v : Bool} (h : i < xs.length) : setR (flat At.enc xs) (i * 11 + 7) [.bool v] = flat At.enc (xs.set i { xs[i] with box := v }) := flt_setk (k := 7) At.len h (by simp) (show setR (At.enc xs[i]) 7 [.bool v] = At.enc { xs[i] with box := v } from rfl)
theorem At.s8 {xs : List At} {i : Nat} {v : Bool} (h : i < xs.length) : setR (flat At.enc xs) (i * 11 + 8) [.bool v] = flat At.enc (xs.set i { xs[i] with double := v }) := flt_setk (k := 8) At.len h (by simp) (show setR (At.enc xs[i]) 8 [.bool v] = At.enc { xs[i] with double := v } from rfl)
theorem At.s9 {xs : List At} {i : Nat} {v : Int} (h : i < xs.length) : setR (flat At.enc xs) (i * 11 + 9) [.int .i64 v] = flat At.enc (xs.set i { xs[i] with held := v }) := flt_setk (k := 9) At.len h (by simp) (show setR (At.enc xs[i]) 9 [.int .i64 v] = At.enc { xs[i] with held := v } from rfl)
theorem At.s10 {xs : List At} {i : Nat} {v : Int} (h : i < xs.length) : setR (flat At.enc xs) (i * 11 + 10) [.int .u8 v] = flat At.enc (xs.set i { xs[i] with last := v }) := flt_setk (k := 10) At.len h (by simp) (show setR (At.enc xs[i]) 10 [.int .u8 v] = At.enc { xs[i] with last := v } from rfl)
def At.none : At := ⟨0, 0, false, false, false, false, false, false, false, 0, 0⟩
theorem At.zero (n : Nat) : repl n [.int .i64 0, .int .i64 0, .bool false, .bool false, .bool false, .bool false, .bool false, .bool false, .bool false, .int .i64 0, .int .u8 0] = flat At.enc (List.replicate n At.none) := flt_repl n At.none [.int .i64 0, .int .i64 0, .bool false, .bool false, .bool false, .bool false, .bool false, .bool false, .bool false, .int .i64 0, .int .u8 0] rfl
def At.ok (s : At) : Prop := (Lit.int .i64 s.fg).wf = true ∧ (Lit.int .i64 s.bg).wf = true ∧ (Lit.int .i64 s.held).wf = true ∧ (Lit.int .u8 s.last).wf = true
theorem At.of {n : Nat} {fs : List (Nat × Nat)} {cs : List AV} (h : zipShp (Shp L (n + 1)) fs cs) (hs : fs.map (dsc L) = [some (.int .i64), some (.int .i64), some .bool, some .bool, some .bool, some .bool, some .bool, some .bool, some .bool, some (.int .i64), some (.int .u8)]) : ∃ s : At, cs = s.enc ∧ s.ok := by
  obtain ⟨x0, gs, r, rfl, w0, h, hs⟩ := zipd_int h hs
  obtain ⟨x1, gs, r, rfl, w1, h, hs⟩ := zipd_int h hs
  obtain ⟨x2, gs, r, rfl, h, hs⟩ := zipd_bool h hs
  obtain ⟨x3, gs, r, rfl, h, hs⟩ := zipd_bool h hs
  obtain ⟨x4, gs, r, rfl, h, hs⟩ := zipd_bool h hs
  obtain ⟨x5, gs, r, rfl, h, hs⟩ := zipd_bool h hs
  obtain ⟨x6, gs, r, rfl, h, hs⟩ := zipd_bool h hs
  obtain ⟨x7, gs, r, rfl, h, hs⟩ := zipd_bool h hs
  obtain ⟨x8, gs, r, rfl, h, hs⟩ := zipd_bool h hs
  obtain ⟨x9, gs, r, rfl, w9, h, hs⟩ := zipd_int h hs
  obtain ⟨x10, gs, r, rfl, w10, h, hs⟩ := zipd_int h hs
  obtain rfl := zipd_nil h hs
  exact ⟨⟨x0, x1, x2, x3, x4, x5, x6, x7, x8, x9, x10⟩, rfl, ⟨w0, w1, w9, w10⟩⟩
theorem At.parts {n e sz bt : Nat} {fs : List (Nat × Nat)} {z : List AV} (hl : L e = some ⟨.strct fs, sz, bt, z⟩) (hs : fs.map (dsc L) = [some (.int .i64), some (.int .i64), some .bool, some .bool, some .bool, some .bool, some .bool, some .bool, some .bool, some (.int .i64), some (.int .u8)]) (ps : List (List AV)) (h : ∀ p ∈ ps, Shp L (n + 2) e p) : ∃ ys : List At, ps.flatten = flat At.enc ys ∧ ys.length = ps.length ∧ ∀ y ∈ ys, y.ok :=
  parts_flat (fun p hp => At.of (shp_strct hl hp) hs) ps h

attribute [local simp] Cell.flen Cell.rd Cell.g0 Cell.g1 Cell.g2 Cell.g3 Cell.g4 Cell.g5 Cell.g6 Cell.g7 Cell.g8 Cell.g9 Cell.put Cell.pute Cell.s0 Cell.s1 Cell.s2 Cell.s3 Cell.s4 Cell.s5 Cell.s6 Cell.s7 Cell.s8 Cell.s9 Cell.zero Cell.enc At.flen At.rd At.g0 At.g1 At.g2 At.g3 At.g4 At.g5 At.g6 At.g7 At.g8 At.g9 At.g10 At.put At.pute At.s0 At.s1 At.s2 At.s3 At.s4 At.s5 At.s6 At.s7 At.s8 At.s9 At.s10 At.zero At.enc

def dblF (s : At) (on : Bool) : At := { s with double := on, held := if s.double = on then s.held else 32 }
def atF (s : At) (c : Int) : At :=
  if c = 9 then { s with flash := false } else if c = 12 then dblF s false else if c = 24 then { s with conceal := true }
  else if c = 25 ∨ c = 26 then { s with parted := decide (c = 26) } else if c = 28 then { s with bg := 0 } else if c = 29 then { s with bg := s.fg }
  else if c = 30 then { s with hold := true } else if c = 11 ∨ c = 10 then (if s.last = c then { s with box := decide (c = 11) } else s) else s
def colF (s : At) (fg : Int) (m : Bool) : At := { s with fg := fg, mosaic := m, conceal := false, held := if s.mosaic = m then s.held else 32 }
def behindF (s : At) (c : Int) : At :=
  if c < 8 then colF s c false else if 16 ≤ c ∧ c < 24 then colF s (c - 16) true else if c = 8 then { s with flash := true }
  else if c = 13 then dblF s true else if c = 31 then { s with hold := false } else s
def glyphF (s : At) (c o : Int) : Int × Int :=
  if c < 32 then (if s.hold = true ∧ s.mosaic = true then (s.held, s.held) else (32, s.held))
  else if s.mosaic = true ∧ isMos c = true then (mGlyphI (patI c) s.parted, mGlyphI (patI c) s.parted) else (charI o c, s.held)
def cellF (s : At) (g : Int) : Cell := ⟨g, s.fg, s.bg, s.flash, s.conceal, s.box, false, false, if s.double = true then 1 else 0, 0⟩
def stepF (s : At) (b o : Int) : At × Cell :=
  let c := bAnd .u8 b 127
  let t := atF s c
  let g := glyphF t c o
  ({ behindF { t with held := g.2 } c with last := c }, cellF t g.1)
def At.start : At := ⟨7, 0, false, false, false, false, false, false, false, 32, 0⟩
theorem t_doubled (tag : Nat) (s : At) (on : Bool) : callω L T 57 tag [.agg s.enc, .bool on] [none, none] = some (.agg (dblF s on).enc, [none, none]) := by
  rw [call_ex (show T 57 = some (.code a57) from rfl) rfl rfl]
  unfold dblF
  by_cases h : s.double = on
  · rw [if_pos h]
    have q : (!(s.double == on)) = false := by rw [h]; cases on <;> rfl
    (have fA := @At.enc.eq_1; refine gox ?_; clear fA)
    (refine finx ?_; try with_reducible rfl)
    try rfl
  · rw [if_neg h]
    have q : (!(s.double == on)) = true := by cases hs : s.double <;> cases on <;> simp_all
    (have fA := @At.enc.eq_1; refine gox ?_; clear fA)
    (refine finx ?_; try with_reducible rfl)
    try rfl
theorem t_coloured (tag : Nat) (s : At) (fg : Int) (m : Bool) (h0 : 0 ≤ fg) (h1 : fg < 256) : callω L T 62 tag [.agg s.enc, .int .u8 fg, .bool m] [none, none, none] = some (.agg (colF s fg m).enc, [none, none, none]) := by
  rw [call_ex (show T 62 = some (.code a62) from rfl) rfl rfl]
  have w : IntKind.i64.wrap fg = fg := w_i64 (by omega) (by omega)
  unfold colF
  by_cases h : s.mosaic = m
  · rw [if_pos h]
    have q : (!(s.mosaic == m)) = false := by rw [h]; cases m <;> rfl
    (have fA := And.intro @At.enc.eq_1 @w; refine gox ?_; clear fA)
    (refine finx ?_; try with_reducible rfl)
    try rw [w]
    try rfl
  · rw [if_neg h]
    have q : (!(s.mosaic == m)) = true := by cases hs : s.mosaic <;> cases m <;> simp_all
    (have fA := And.intro @At.enc.eq_1 @w; refine gox ?_; clear fA)
    (refine finx ?_; try with_reducible rfl)
    try rw [w]
    try rfl
theorem t_at (tag : Nat) (s : At) (c : Int) : callω L T 50 tag [.agg s.enc, .int .u8 c] [none, none] = some (.agg (atF s c).enc, [none, none]) := by
  rw [call_ex (show T 50 = some (.code a50) from rfl) rfl rfl]
  unfold atF
  by_cases c1 : c = 9
  · subst c1
    (have fA := @At.enc.eq_1; refine gox ?_; clear fA)
    (refine finx ?_; try with_reducible rfl)
    rfl
  rw [if_neg c1]
  by_cases c2 : c = 12
  · subst c2
    (have fA := @At.enc.eq_1; have c1 := fun x1 => t_doubled x1 s false; refine gox ?_; clear fA c1)
    (refine finx ?_; try with_reducible rfl)
    rfl
  rw [if_neg c2]
  by_cases c3 : c = 24
  · subst c3
    (have fA := @At.enc.eq_1; refine gox ?_; clear fA)
    (refine finx ?_; try with_reducible rfl)
    rfl
  rw [if_neg c3]
  by_cases c4 : c = 25
  · subst c4
    (have fA := @At.enc.eq_1; refine gox ?_; clear fA)
    (refine finx ?_; try with_reducible rfl)
    rfl
  by_cases c5 : c = 26
  · subst c5
    (have fA := @At.enc.eq_1; refine gox ?_; clear fA)
    (refine finx ?_; try with_reducible rfl)
    rfl
  rw [if_neg (by omega)]
  by_cases c6 : c = 28
  · subst c6
    (have fA := @At.enc.eq_1; refine gox ?_; clear fA)
    (refine finx ?_; try with_reducible rfl)
    rfl
  rw [if_neg c6]
  by_cases c7 : c = 29
  · subst c7
    (have fA := @At.enc.eq_1; refine gox ?_; clear fA)
    (refine finx ?_; try with_reducible rfl)
    rfl
  rw [if_neg c7]
  by_cases c8 : c = 30
  · subst c8
    (have fA := @At.enc.eq_1; refine gox ?_; clear fA)
    (refine finx ?_; try with_reducible rfl)
    rfl
  rw [if_neg c8]
  by_cases c9 : c = 11
  · subst c9
    rw [if_pos (Or.inl rfl)]
    by_cases l : s.last = 11
    · rw [if_pos l]
      (have fA := @At.enc.eq_1; refine gox ?_; clear fA)
      (refine finx ?_; try with_reducible rfl)
      rfl
    · rw [if_neg l]
      (have fA := @At.enc.eq_1; refine gox ?_; clear fA)
      (refine finx ?_; try with_reducible rfl)
      rfl
  by_cases c10 : c = 10
  · subst c10
    rw [if_pos (Or.inr rfl)]
    by_cases l : s.last = 10
    · rw [if_pos l]
      (have fA := @At.enc.eq_1; refine gox ?_; clear fA)
      (refine finx ?_; try with_reducible rfl)
      rfl
    · rw [if_neg l]
      (have fA := @At.enc.eq_1; refine gox ?_; clear fA)
      (refine finx ?_; try with_reducible rfl)
      rfl
  rw [if_neg (by omega)]
  (have fA := @At.enc.eq_1; refine gox ?_; clear fA)
  (refine finx ?_; try with_reducible rfl)
  rfl
theorem t_behind (tag : Nat) (s : At) (c : Int) (h0 : 0 ≤ c) (h1 : c < 256) : callω L T 52 tag [.agg s.enc, .int .u8 c] [none, none] = some (.agg (behindF s c).enc, [none, none]) := by
  rw [call_ex (show T 52 = some (.code a52) from rfl) rfl rfl]
  unfold behindF
  by_cases c1 : c < 8
  · rw [if_pos c1]
    (have fA := @At.enc.eq_1; have c1 := fun x1 => t_coloured x1 s c false h0 h1; refine gox ?_; clear fA c1)
    (refine finx ?_; try with_reducible rfl)
    try rfl
  rw [if_neg c1]
  by_cases c2 : c < 16
  · rw [if_neg (by omega)]
    by_cases c4 : c = 8
    · subst c4
      (have fA := @At.enc.eq_1; refine gox ?_; clear fA)
      (refine finx ?_; try with_reducible rfl)
      rfl
    rw [if_neg c4]
    by_cases c5 : c = 13
    · subst c5
      (have fA := @At.enc.eq_1; have c1 := fun x1 => t_doubled x1 s true; refine gox ?_; clear fA c1)
      (refine finx ?_; try with_reducible rfl)
      rfl
    rw [if_neg c5, if_neg (by omega)]
    (have fA := @At.enc.eq_1; refine gox ?_; clear fA)
    (refine finx ?_; try with_reducible rfl)
    rfl
  by_cases c3 : c < 24
  · rw [if_pos (by omega)]
    have w : IntKind.u8.wrap (c - 16) = c - 16 := w_u8 (by omega) (by omega)
    have tc := t_coloured (tag + 1) s (c - 16) true (by omega) (by omega)
    rw [← w] at tc
    (have fA := @At.enc.eq_1; have c1 := tc; refine gox ?_; clear fA c1)
    (refine finx ?_; try with_reducible rfl)
    try rw [w]
    try rfl
  rw [if_neg (by omega), if_neg (by omega), if_neg (by omega)]
  by_cases c6 : c = 31
  · subst c6
    (have fA := @At.enc.eq_1; refine gox ?_; clear fA)
    (refine finx ?_; try with_reducible rfl)
    rfl
  rw [if_neg c6]
  (have fA := @At.enc.eq_1; refine gox ?_; clear fA)
  (refine finx ?_; try with_reducible rfl)
  rfl
theorem t_at_glyph (tag : Nat) (s : At) (c o : Int) (h0 : 0 ≤ c) (h1 : c < 256) : callω L T 51 tag [.agg s.enc, .int .u8 c, .int .i64 o] [none, none, none] = some (.tup [.int .i64 (glyphF s c o).1, .int .i64 (glyphF s c o).2], [none, none, none]) := by
  rw [call_ex (show T 51 = some (.code a51) from rfl) rfl rfl]
  unfold glyphF
  have tp := t_mosaic_Pattern (tag + 1) c h0 h1
  have ti := t_mosaic_Is (tag + 1) c
  have tg := t_mosaic_Glyph (tag + 1) (patI c) s.parted
  have tc := t_Char (tag + 1) o c
  by_cases c1 : c < 32
  · rw [if_pos c1]
    cases hh : s.hold
    · rw [if_neg (by simp)]
      (have fA := @At.enc.eq_1; refine gox ?_; clear fA)
      (refine finx ?_; try with_reducible rfl)
      try rfl
    · cases hm : s.mosaic
      · rw [if_neg (by simp)]
        (have fA := @At.enc.eq_1; refine gox ?_; clear fA)
        (refine finx ?_; try with_reducible rfl)
        try rfl
      · rw [if_pos ⟨rfl, rfl⟩]
        (have fA := @At.enc.eq_1; refine gox ?_; clear fA)
        (refine finx ?_; try with_reducible rfl)
        try rfl
  rw [if_neg c1]
  cases hm : s.mosaic
  · rw [if_neg (by simp)]
    (have fA := @At.enc.eq_1; have c1 := tp; have c2 := ti; have c3 := tg; have c4 := tc; refine gox ?_; clear fA c1 c2 c3 c4)
    (refine finx ?_; try with_reducible rfl)
    try rfl
  · cases hi : isMos c
    · rw [if_neg (by simp)]
      (have fA := @At.enc.eq_1; have c1 := tp; have c2 := ti; have c3 := tg; have c4 := tc; refine gox ?_; clear fA c1 c2 c3 c4)
      (refine finx ?_; try with_reducible rfl)
      try rfl
    · rw [if_pos ⟨rfl, rfl⟩]
      (have fA := @At.enc.eq_1; have c1 := tp; have c2 := ti; have c3 := tg; have c4 := tc; refine gox ?_; clear fA c1 c2 c3 c4)
      (refine finx ?_; try with_reducible rfl)
      try rfl
theorem t_attr_Start (tag : Nat) : callω L T 42 tag [] [] = some (.agg At.start.enc, []) := by
  rw [call_ex (show T 42 = some (.code a42) from rfl) rfl rfl]
  (refine gox ?_)
  (refine finx ?_; try with_reducible rfl)
  rfl

end Go.Proofs.Ytkienchmbfhigaa
