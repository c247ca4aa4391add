/- Functions of the seat, worked off from their code: chunk page3. Written by program (tools/mkp.py) from wip/fn. -/
import Derived.Test.YtkienchmbfhigaaSimT
import Derived.Test.YtkienchmbfhigaaSimY
import Derived.Test.YtkienchmbfhigaaPpage2
set_option maxRecDepth 100000
set_option maxHeartbeats 40000000
set_option linter.unusedSimpArgs false
set_option linter.unusedVariables false
namespace Go.Proofs.Ytkienchmbfhigaa
open Go Go.Sim
attribute [local irreducible] chk brX getX strX setX takeX normX fillX lendX partsX opsX callK lentK lentR giveX adoptX resX joinX headX loopX seqK blkK regK finX exOps ex eqT
attribute [local simp] setR_int setR_bool setR_zero setR_succ repl_int repl_bool List.getElem?_cons_zero List.getElem?_cons_succ List.getElem?_nil w_i64 w_u64 w_u8 bAnd_u8 bOr_u8 bXor_u8 bAndNot_u8 bShl_u8 wrap_u8_range all_plain_int all_plain_bool all_plain_app pl_bool pl_int pl_str pl_nilp pl_nsl pl_nilI pl_nilF take_map_len AV.cells TI.isAgg
structure Hd where
  mag : Int
  page : Int
  sub : Int
  c0 : Bool
  c1 : Bool
  c2 : Bool
  c3 : Bool
  c4 : Bool
  c5 : Bool
  c6 : Bool
  c7 : Bool
  c8 : Bool
  c9 : Bool
  c10 : Bool
  opt : Int
  deriving DecidableEq
def Hd.enc (s : Hd) : List AV := [.int .i64 s.mag, .int .i64 s.page, .int .i64 s.sub, .bool s.c0, .bool s.c1, .bool s.c2, .bool s.c3, .bool s.c4, .bool s.c5, .bool s.c6, .bool s.c7, .bool s.c8, .bool s.c9, .bool s.c10, .int .i64 s.opt]
theorem Hd.len (s : Hd) : s.enc.length = 15 := rfl
theorem Hd.flen (xs : List Hd) : (flat Hd.enc xs).length = xs.length * 15 := flt_len Hd.len xs
theorem Hd.pl (xs : List Hd) : (flat Hd.enc xs).all AV.plain = true := flt_plain (fun _ => rfl) xs
theorem Hd.rd {xs : List Hd} {i : Nat} (h : i < xs.length) : ((flat Hd.enc xs).drop (i * 15)).take 15 = [.int .i64 xs[i].mag, .int .i64 xs[i].page, .int .i64 xs[i].sub, .bool xs[i].c0, .bool xs[i].c1, .bool xs[i].c2, .bool xs[i].c3, .bool xs[i].c4, .bool xs[i].c5, .bool xs[i].c6, .bool xs[i].c7, .bool xs[i].c8, .bool xs[i].c9, .bool xs[i].c10, .int .i64 xs[i].opt] := flt_rd Hd.len h
theorem Hd.g0 {xs : List Hd} {i : Nat} (h : i < xs.length) : (flat Hd.enc xs)[i * 15]? = some (.int .i64 xs[i].mag) := by simpa [Hd.enc] using flt_get (k := 0) Hd.len h (by omega)
theorem Hd.g1 {xs : List Hd} {i : Nat} (h : i < xs.length) : (flat Hd.enc xs)[i * 15 + 1]? = some (.int .i64 xs[i].page) := flt_get Hd.len h (by omega)
theorem Hd.g2 {xs : List Hd} {i : Nat} (h : i < xs.length) : (flat Hd.enc xs)[i * 15 + 2]? = some (.int .i64 xs[i].sub) := flt_get Hd.len h (by omega)
theorem Hd.g3 {xs : List Hd} {i : Nat} (h : i < xs.length) : (flat Hd.enc xs)[i * 15 + 3]? = some (.bool xs[i].c0) := flt_get Hd.len h (by omega)
theorem Hd.g4 {xs : List Hd} {i : Nat} (h : i < xs.length) : (flat Hd.enc xs)[i * 15 + 4]? = some (.bool xs[i].c1) := flt_get Hd.len h (by omega)
theorem Hd.g5 {xs : List Hd} {i : Nat} (h : i < xs.length) : (flat Hd.enc xs)[i * 15 + 5]? = some (.bool xs[i].c2) := flt_get Hd.len h (by omega)
theorem Hd.g6 {xs : List Hd} {i : Nat} (h : i < xs.length) : (flat Hd.enc xs)[i * 15 + 6]? = some (.bool xs[i].c3) := flt_get Hd.len h (by omega)
theorem Hd.g7 {xs : List Hd} {i : Nat} (h : i < xs.length) : (flat Hd.enc xs)[i * 15 + 7]? = some (.bool xs[i].c4) := flt_get Hd.len h (by omega)
theorem Hd.g8 {xs : List Hd} {i : Nat} (h : i < xs.length) : (flat Hd.enc xs)[i * 15 + 8]? = some (.bool xs[i].c5) := flt_get Hd.len h (by omega)
theorem Hd.g9 {xs : List Hd} {i : Nat} (h : i < xs.length) : (flat Hd.enc xs)[i * 15 + 9]? = some (.bool xs[i].c6) := flt_get Hd.len h (by omega)
theorem Hd.g10 {xs : List Hd} {i : Nat} (h : i < xs.length) : (flat Hd.enc xs)[i * 15 + 10]? = some (.bool xs[i].c7) := flt_get Hd.len h (by omega)
theorem Hd.g11 {xs : List Hd} {i : Nat} (h : i < xs.length) : (flat Hd.enc xs)[i * 15 + 11]? = some (.bool xs[i].c8) := flt_get Hd.len h (by omega)
theorem Hd.g12 {xs : List Hd} {i : Nat} (h : i < xs.length) : (flat Hd.enc xs)[i * 15 + 12]? = some (.bool xs[i].c9) := flt_get Hd.len h (by omega)
theorem Hd.g13 {xs : List Hd} {i : Nat} (h : i < xs.length) : (flat Hd.enc xs)[i * 15 + 13]? = some (.bool xs[i].c10) := flt_get Hd.len h (by omega)
theorem Hd.g14 {xs : List Hd} {i : Nat} (h : i < xs.length) : (flat Hd.enc xs)[i * 15 + 14]? = some (.int .i64 xs[i].opt) := flt_get Hd.len h (by omega)
theorem Hd.put {xs : List Hd} {i : Nat} {a0 : Int} {a1 : Int} {a2 : Int} {a3 : Bool} {a4 : Bool} {a5 : Bool} {a6 : Bool} {a7 : Bool} {a8 : Bool} {a9 : Bool} {a10 : Bool} {a11 : Bool} {a12 : Bool} {a13 : Bool} {a14 : Int} (h : i < xs.length) : setR (flat Hd.enc xs) (i * 15) [.int .i64 a0, .int .i64 a1, .int .i64 a2, .bool a3, .bool a4, .bool a5, .bool a6, .bool a7, .bool a8, .bool a9, .bool a10, .bool a11, .bool a12, .bool a13, .int .i64 a14] = flat Hd.enc (xs.set i ⟨a0, a1, a2, a3, a4, a5, a6, a7, a8, a9, a10, a11, a12, a13, a14⟩) := flt_set Hd.len (y := ⟨a0, a1, a2, a3, a4, a5, a6, a7, a8, a9, a10, a11, a12, a13, a14⟩) h
theorem Hd.pute {xs : List Hd} {i : Nat} {y : Hd} (h : i < xs.length) : setR (flat Hd.enc xs) (i * 15) y.enc = flat Hd.enc (xs.set i y) := flt_set Hd.len h
theorem Hd.enc_eq {a0 : Int} {a1 : Int} {a2 : Int} {a3 : Bool} {a4 : Bool} {a5 : Bool} {a6 : Bool} {a7 : Bool} {a8 : Bool} {a9 : Bool} {a10 : Bool} {a11 : Bool} {a12 : Bool} {a13 : Bool} {a14 : Int} : Hd.enc ⟨a0, a1, a2, a3, a4, a5, a6, a7, a8, a9, a10, a11, a12, a13, a14⟩ = [.int .i64 a0, .int .i64 a1, .int .i64 a2, .bool a3, .bool a4, .bool a5, .bool a6, .bool a7, .bool a8, .bool a9, .bool a10, .bool a11, .bool a12, .bool a13, .int .i64 a14] := rfl
theorem Hd.s0 {xs : List Hd} {i : Nat} {v : Int} (h : i < xs.length) : setR (flat Hd.enc xs) (i * 15) [.int .i64 v] = flat Hd.enc (xs.set i { xs[i] with mag := v }) := by simpa using flt_setk (k := 0) Hd.len h (by simp) (show setR (Hd.enc xs[i]) 0 [.int .i64 v] = Hd.enc { xs[i] with mag := v } from rfl)
theorem Hd.s1 {xs : List Hd} {i : Nat} {v : Int} (h : i < xs.length) : setR (flat Hd.enc xs) (i * 15 + 1) [.int .i64 v] = flat Hd.enc (xs.set i { xs[i] with page := v }) := flt_setk (k := 1) Hd.len h (by simp) (show setR (Hd.enc xs[i]) 1 [.int .i64 v] = Hd.enc { xs[i] with page := v } from rfl)
theorem Hd.s2 {xs : List Hd} {i : Nat} {v : Int} (h : i < xs.length) : setR (flat Hd.enc xs) (i * 15 + 2) [.int .i64 v] = flat Hd.enc (xs.set i { xs[i] with sub := v }) := flt_setk (k := 2) Hd.len h (by simp) (show setR (Hd.enc xs[i]) 2 [.int .i64 v] = Hd.enc { xs[i] with sub := v } from rfl)
theorem Hd.s3 {xs : List Hd} {i : Nat} {v : Bool} (h : i < xs.length) : setR (flat Hd.enc xs) (i * 15 + 3) [.bool v] = flat Hd.enc (xs.set i { xs[i] with c0 := v }) := flt_setk (k := 3) Hd.len h (by simp) (show setR (Hd.enc xs[i]) 3 [.bool v] = Hd.enc { xs[i] with c0 := v } from rfl)
theorem Hd.s4 {xs : List Hd} {i : Nat} {v : Bool} (h : i < xs.length) : setR (flat Hd.enc xs) (i * 15 + 4) [.bool v] = flat Hd.enc (xs.set i { xs[i] with c1 := v }) := flt_setk (k := 4) Hd.len h (by simp) (show setR (Hd.enc xs[i]) 4 [.bool v] = Hd.enc { xs[i] with c1 := v } from rfl)
theorem Hd.s5 {xs : List Hd} {i : Nat} {v : Bool} (h : i < xs.length) : setR (flat Hd.enc xs) (i * 15 + 5) [.bool v] = flat Hd.enc (xs.set i { xs[i] with c2 := v }) := flt_setk (k := 5) Hd.len h (by simp) (show setR (Hd.enc xs[i]) 5 [.bool v] = Hd.enc { xs[i] with c2 := v } from rfl)
theorem Hd.s6 {xs : List Hd} {i : Nat} {v : Bool} (h : i < xs.length) : setR (flat Hd.enc xs) (i * 15 + 6) [.bool v] = flat Hd.enc (xs.set i { xs[i] with c3 := v }) := flt_setk (k := 6) Hd.len h (by simp) (show setR (Hd.enc xs[i]) 6 [.bool v] = Hd.enc { xs[i] with c3 := v } from rfl)
theorem Hd.s7 {xs : List Hd} {i : Nat} {v : Bool} (h : i < xs.length) : setR (flat Hd.enc xs) (i * 15 + 7) [.bool v] = flat Hd.enc (xs.set i { xs[i] with c4 := v }) := flt_setk (k := 7) Hd.len h (by simp) (show setR (Hd.enc xs[i]) 7 [.bool v] = Hd.enc { xs[i] with c4 := v } from rfl)
theorem Hd.s8 {xs : List Hd} {i : Nat} {v : Bool} (h : i < xs.length) : setR (flat Hd.enc xs) (i * 15 + 8) [.bool v] = flat Hd.enc (xs.set i { xs[i] with c5 := v }) := flt_setk (k := 8) Hd.len h (by simp) (show setR (Hd.enc xs[i]) 8 [.bool v] = Hd.enc { xs[i] with c5 := v } from rfl)
theorem Hd.s9 {xs : List Hd} {i : Nat} {v : Bool} (h : i < xs.length) : setR (flat Hd.enc xs) (i * 15 + 9) [.bool v] = flat Hd.enc (xs.set i { xs[i] with c6 := v }) := flt_setk (k := 9) Hd.len h (by simp) (show setR (Hd.enc xs[i]) 9 [.bool v] = Hd.enc { xs[i] with c6 := v } from rfl)
theorem Hd.s10 {xs : List Hd} {i : Nat} {v : Bool} (h : i < xs.length) : setR (flat Hd.enc xs) (i * 15 + 10) [.bool v] = flat Hd.enc (xs.set i { xs[i] with c7 := v }) := flt_setk (k := 10) Hd.len h (by simp) (show setR (Hd.enc xs[i]) 10 [.bool v] = Hd.enc { xs[i] with c7 := v } from rfl)
theorem Hd.s11 {xs : List Hd} {i : Nat} {v : Bool} (h : i < xs.length) : setR (flat Hd.enc xs) (i * 15 + 11) [.bool v] = flat Hd.enc (xs.set i { xs[i] with c8 := v }) := flt_setk (k := 11) Hd.len h (by simp) (show setR (Hd.enc xs[i]) 11 [.bool v] = Hd.enc { xs[i] with c8 := v } from rfl)
theorem Hd.s12 {xs : List Hd} {i : Nat} {v : Bool} (h : i < xs.length) : setR (flat Hd.enc xs) (i * 15 + 12) [.bool v] = flat Hd.enc (xs.set i { xs[i] with c9 := v }) := flt_setk (k := 12) Hd.len h (by simp) (show setR (Hd.enc xs[i]) 12 [.bool v] = Hd.enc { xs[i] with c9 := v } from rfl)
theorem Hd.s13 {xs : List Hd} {i : Nat} {v : Bool} (h : i < xs.length) : setR (flat Hd.enc xs) (i * 15 + 13) [.bool v] = flat Hd.enc (xs.set i { xs[i] with c10 := v }) := flt_setk (k := 13) Hd.len h (by simp) (show setR (Hd.enc xs[i]) 13 [.bool v] = Hd.enc { xs[i] with c10 := v } from rfl)
theorem Hd.s14 {xs : List Hd} {i : Nat} {v : Int} (h : i < xs.length) : setR (flat Hd.enc xs) (i * 15 + 14) [.int .i64 v] = flat Hd.enc (xs.set i { xs[i] with opt := v }) := flt_setk (k := 14) Hd.len h (by simp) (show setR (Hd.enc xs[i]) 14 [.int .i64 v] = Hd.enc { xs[i] with opt := v } from rfl)
def Hd.none : Hd := ⟨0, 0, 0, false, false, false, false, false, false, false, false, false, false, false, 0⟩
theorem Hd.zero (n : Nat) : repl n [.int .i64 0, .int .i64 0, .int .i64 0, .bool false, .bool false, .bool false, .bool false, .bool false, .bool false, .bool false, .bool false, .bool false, .bool false, .bool false, .int .i64 0] = flat Hd.enc (List.replicate n Hd.none) := flt_repl n Hd.none [.int .i64 0, .int .i64 0, .int .i64 0, .bool false, .bool false, .bool false, .bool false, .bool false, .bool false, .bool false, .bool false, .bool false, .bool false, .bool false, .int .i64 0] rfl
def Hd.ok (s : Hd) : Prop := (Lit.int .i64 s.mag).wf = true ∧ (Lit.int .i64 s.page).wf = true ∧ (Lit.int .i64 s.sub).wf = true ∧ (Lit.int .i64 s.opt).wf = true
theorem Hd.of {n : Nat} {fs : List (Nat × Nat)} {cs : List AV} (h : zipShp (Shp L (n + 1)) fs cs) (hs : fs.map (dsc L) = [some (.int .i64), some (.int .i64), some (.int .i64), some .bool, some .bool, some .bool, some .bool, some .bool, some .bool, some .bool, some .bool, some .bool, some .bool, some .bool, some (.int .i64)]) : ∃ s : Hd, cs = s.enc ∧ s.ok := by
  obtain ⟨x0, gs, r, rfl, w0, h, hs⟩ := zipd_int h hs
  obtain ⟨x1, gs, r, rfl, w1, h, hs⟩ := zipd_int h hs
  obtain ⟨x2, gs, r, rfl, w2, h, hs⟩ := zipd_int h hs
  obtain ⟨x3, gs, r, rfl, h, hs⟩ := zipd_bool h hs
  obtain ⟨x4, gs, r, rfl, h, hs⟩ := zipd_bool h hs
  obtain ⟨x5, gs, r, rfl, h, hs⟩ := zipd_bool h hs
  obtain ⟨x6, gs, r, rfl, h, hs⟩ := zipd_bool h hs
  obtain ⟨x7, gs, r, rfl, h, hs⟩ := zipd_bool h hs
  obtain ⟨x8, gs, r, rfl, h, hs⟩ := zipd_bool h hs
  obtain ⟨x9, gs, r, rfl, h, hs⟩ := zipd_bool h hs
  obtain ⟨x10, gs, r, rfl, h, hs⟩ := zipd_bool h hs
  obtain ⟨x11, gs, r, rfl, h, hs⟩ := zipd_bool h hs
  obtain ⟨x12, gs, r, rfl, h, hs⟩ := zipd_bool h hs
  obtain ⟨x13, gs, r, rfl, h, hs⟩ := zipd_bool h hs
  obtain ⟨x14, gs, r, rfl, w14, h, hs⟩ := zipd_int h hs
  obtain rfl := zipd_nil h hs
  exact ⟨⟨x0, x1, x2, x3, x4, x5, x6, x7, x8, x9, x10, x11, x12, x13, x14⟩, rfl, ⟨w0, w1, w2, w14⟩⟩
theorem Hd.parts {n e sz bt : Nat} {fs : List (Nat × Nat)} {z : List AV} (hl : L e = some ⟨.strct fs, sz, bt, z⟩) (hs : fs.map (dsc L) = [some (.int .i64), some (.int .i64), some (.int .i64), some .bool, some .bool, some .bool, some .bool, some .bool, some .bool, some .bool, some .bool, some .bool, some .bool, some .bool, some (.int .i64)]) (ps : List (List AV)) (h : ∀ p ∈ ps, Shp L (n + 2) e p) : ∃ ys : List Hd, ps.flatten = flat Hd.enc ys ∧ ys.length = ps.length ∧ ∀ y ∈ ys, y.ok :=
  parts_flat (fun p hp => Hd.of (shp_strct hl hp) hs) ps h

attribute [local simp] Tr.flen Tr.rd Tr.g0 Tr.g1 Tr.g2 Tr.put Tr.pute Tr.s0 Tr.s1 Tr.s2 Tr.zero Tr.enc Hd.flen Hd.rd Hd.g0 Hd.g1 Hd.g2 Hd.g3 Hd.g4 Hd.g5 Hd.g6 Hd.g7 Hd.g8 Hd.g9 Hd.g10 Hd.g11 Hd.g12 Hd.g13 Hd.g14 Hd.put Hd.pute Hd.s0 Hd.s1 Hd.s2 Hd.s3 Hd.s4 Hd.s5 Hd.s6 Hd.s7 Hd.s8 Hd.s9 Hd.s10 Hd.s11 Hd.s12 Hd.s13 Hd.s14 Hd.zero Hd.enc

structure Pg where
  hd : Hd
  rows : List Int
  there : List Bool
  extra : List Tr
  links : List Int
  linked : Bool
  dflt : Int
structure Pg.Ok (p : Pg) : Prop where
  rows : p.rows.length = 1000
  there : p.there.length = 25
  links : p.links.length = 18
def Pg.enc (p : Pg) (x : AV) : List AV := p.hd.enc ++ (p.rows.map (.int .u8) ++ (p.there.map .bool ++ (x :: (p.links.map (.int .i64) ++ [.bool p.linked, .int .i64 p.dflt]))))
def Pg.row (p : Pg) (r : Nat) : List Int := (p.rows.drop (r * 40)).take 40
def Pg.setRow (p : Pg) (r : Nat) (l : List Int) : Pg := { p with rows := p.rows.take (r * 40) ++ (l ++ p.rows.drop (r * 40 + 40)) }
def Pg.setThere (p : Pg) (r : Nat) (b : Bool) : Pg := { p with there := p.there.set r b }
def Pg.setHd (p : Pg) (h : Hd) : Pg := { p with hd := h }
def Pg.is (p : Pg) (r : Nat) : Bool := p.there.getD r false
theorem Pg.row_len {p : Pg} (h : p.Ok) {r : Nat} (hr : r < 25) : (p.row r).length = 40 := by
  have := h.rows
  simp [Pg.row]; omega
theorem Pg.setRow_ok {p : Pg} (h : p.Ok) {r : Nat} {l : List Int} (hr : r < 25) (hl : l.length = 40) : (p.setRow r l).Ok := by
  have := h.rows
  exact ⟨by simp [Pg.setRow]; omega, h.there, h.links⟩
theorem Pg.setThere_ok {p : Pg} (h : p.Ok) {r : Nat} {b : Bool} : (p.setThere r b).Ok := ⟨h.rows, by simp [Pg.setThere, h.there], h.links⟩
theorem Pg.setHd_ok {p : Pg} (h : p.Ok) {x : Hd} : (p.setHd x).Ok := ⟨h.rows, h.there, h.links⟩
/-! parts of a row of five parts -/
theorem app_get_l {a b : List AV} {k : Nat} (h : k < a.length) : (a ++ b)[k]? = a[k]? := List.getElem?_append_left h
theorem app_get_r {a b : List AV} {k n : Nat} (h : a.length = n) : (a ++ b)[n + k]? = b[k]? := by rw [List.getElem?_append_right (by omega)]; congr 1; omega
theorem setR_app_r {a b : List AV} {n k : Nat} {v : List AV} (h : a.length = n) : setR (a ++ b) (n + k) v = a ++ setR b k v := by
  unfold setR
  subst h
  rw [List.take_append, List.drop_append, List.take_of_length_le (by omega), Nat.add_sub_cancel_left, List.drop_eq_nil_of_le (by omega)]
  simp [Nat.add_assoc]
theorem setR_app_l {a b : List AV} {k : Nat} {v : List AV} (h : k + v.length ≤ a.length) : setR (a ++ b) k v = setR a k v ++ b := by
  unfold setR
  rw [List.take_append_of_le_length (by omega), List.drop_append_of_le_length (by omega)]
  simp
theorem drop_app_r {a b : List AV} {n k : Nat} (h : a.length = n) : (a ++ b).drop (n + k) = b.drop k := by
  subst h
  rw [List.drop_append, List.drop_eq_nil_of_le (by omega), Nat.add_sub_cancel_left]; rfl
theorem drop_take_l {a b : List AV} {k n : Nat} (h : k + n ≤ a.length) : ((a ++ b).drop k).take n = (a.drop k).take n := by
  rw [List.drop_append_of_le_length (by omega), List.take_append_of_le_length (by simp; omega)]
section
variable {p : Pg} {x y : AV} {r : Nat}
theorem Pg.rl (h : p.Ok) : (p.rows.map (AV.int .u8)).length = 1000 := by simp [h.rows]
theorem Pg.tl (h : p.Ok) : (p.there.map AV.bool).length = 25 := by simp [h.there]
theorem Pg.len (h : p.Ok) : (p.enc x).length = 1061 := by
  have := h.rows; have := h.there; have := h.links
  simp [Pg.enc, Hd.len, *]
theorem Pg.ex_at (h : p.Ok) : (p.enc x)[1040]? = some x := by
  unfold Pg.enc
  rw [app_get_r (n := 15) (k := 1025) (Hd.len _), app_get_r (n := 1000) (k := 25) (Pg.rl h), app_get_r (n := 25) (k := 0) (Pg.tl h)]
  rfl
theorem Pg.put_ex (h : p.Ok) : setR (p.enc x) 1040 [y] = p.enc y := by
  unfold Pg.enc
  rw [setR_app_r (n := 15) (k := 1025) (Hd.len _), setR_app_r (n := 1000) (k := 25) (Pg.rl h), setR_app_r (n := 25) (k := 0) (Pg.tl h)]
  rfl
theorem Pg.there_at (h : p.Ok) (hr : r < 25) : (p.enc x)[1015 + r]? = some (.bool (p.is r)) := by
  unfold Pg.enc
  rw [show 1015 + r = 15 + (1000 + r) by omega, app_get_r (n := 15) (Hd.len _), app_get_r (n := 1000) (Pg.rl h), app_get_l (by rw [Pg.tl h]; exact hr), List.getElem?_map, List.getElem?_eq_getElem (by rw [h.there]; exact hr), Pg.is, List.getD_eq_getElem?_getD, List.getElem?_eq_getElem (by rw [h.there]; exact hr)]
  rfl
theorem Pg.put_there (h : p.Ok) (hr : r < 25) {b : Bool} : setR (p.enc x) (1015 + r) [.bool b] = (p.setThere r b).enc x := by
  unfold Pg.enc
  rw [show 1015 + r = 15 + (1000 + r) by omega, setR_app_r (n := 15) (Hd.len _), setR_app_r (n := 1000) (Pg.rl h), setR_app_l (by rw [Pg.tl h]; exact hr), setR_bool (by rw [h.there]; exact hr)]
  rfl
theorem Pg.row_at (h : p.Ok) (hr : r < 25) : ((p.enc x).drop (15 + r * 40)).take 40 = (p.row r).map (.int .u8) := by
  unfold Pg.enc
  rw [drop_app_r (n := 15) (Hd.len _), drop_take_l (by rw [Pg.rl h]; omega), Pg.row, List.map_take, List.map_drop]
theorem Pg.put_row (h : p.Ok) (hr : r < 25) {l : List Int} (hl : l.length = 40) : setR (p.enc x) (15 + r * 40) (l.map (.int .u8)) = (p.setRow r l).enc x := by
  unfold Pg.enc
  rw [setR_app_r (n := 15) (Hd.len _), setR_app_l (by rw [Pg.rl h, List.length_map]; omega)]
  unfold setR Pg.setRow
  simp [hl]
theorem Pg.head_at (h : p.Ok) : (p.enc x).take 15 = p.hd.enc := by
  unfold Pg.enc
  rw [List.take_append_of_le_length (by rw [Hd.len]; omega), List.take_of_length_le (by rw [Hd.len]; omega)]
theorem Pg.put_head (h : p.Ok) {q : Hd} : setR (p.enc x) 0 q.enc = (p.setHd q).enc x := by
  unfold Pg.enc
  rw [setR_app_l (by rw [Hd.len, Hd.len]; omega), setR_all (by rw [Hd.len, Hd.len])]
  rfl
theorem Pg.whole (h : p.Ok) : (p.enc x).take 1061 = p.enc x := List.take_of_length_le (by rw [Pg.len h]; omega)
def Pg.pre (p : Pg) : List AV := p.hd.enc ++ (p.rows.map (.int .u8) ++ p.there.map .bool)
def Pg.post (p : Pg) : List AV := p.links.map (.int .i64) ++ [.bool p.linked, .int .i64 p.dflt]
theorem Pg.pre_at (h : p.Ok) : (p.enc x).take 1040 = p.pre := by
  have := h.rows; have := h.there
  have e : p.enc x = p.pre ++ (x :: p.post) := by simp [Pg.enc, Pg.pre, Pg.post]
  rw [e, List.take_append_of_le_length (by simp [Pg.pre, Hd.len, *]), List.take_of_length_le (by simp [Pg.pre, Hd.len, *])]
theorem Pg.post_at (h : p.Ok) : (p.enc x).drop 1041 = p.post := by
  have := h.rows; have := h.there
  have e : p.enc x = (p.pre ++ [x]) ++ p.post := by simp [Pg.enc, Pg.pre, Pg.post]
  rw [e, List.drop_append, List.drop_eq_nil_of_le (by simp [Pg.pre, Hd.len, *])]
  simp [Pg.pre, Hd.len, *]
theorem Pg.join : p.pre ++ (x :: p.post) = p.enc x := by simp [Pg.enc, Pg.pre, Pg.post]
theorem Pg.put_all {q : Pg} (h : p.Ok) (hq : q.Ok) : setR (p.enc x) 0 (q.enc y) = q.enc y := setR_all (by rw [Pg.len h, Pg.len hq])
theorem Pg.pre_pl : p.pre.all AV.plain = true := by
  have : p.hd.enc.all AV.plain = true := rfl
  simp [Pg.pre, List.all_append, this, AV.plain]
theorem Pg.post_pl : p.post.all AV.plain = true := by simp [Pg.post, AV.plain]
end
theorem pgs : type_of% (And.intro @Pg.len <| And.intro @Pg.ex_at <| And.intro @Pg.put_ex <| And.intro @Pg.there_at <| And.intro @Pg.put_there <| And.intro @Pg.row_at <| And.intro @Pg.put_row <| And.intro @Pg.head_at <| And.intro @Pg.put_head <| And.intro @Pg.whole <| And.intro @Pg.pre_at <| And.intro @Pg.post_at <| And.intro @Pg.join <| And.intro @Pg.put_all <| And.intro @Pg.pre_pl @Pg.post_pl) :=
  And.intro @Pg.len <| And.intro @Pg.ex_at <| And.intro @Pg.put_ex <| And.intro @Pg.there_at <| And.intro @Pg.put_there <| And.intro @Pg.row_at <| And.intro @Pg.put_row <| And.intro @Pg.head_at <| And.intro @Pg.put_head <| And.intro @Pg.whole <| And.intro @Pg.pre_at <| And.intro @Pg.post_at <| And.intro @Pg.join <| And.intro @Pg.put_all <| And.intro @Pg.pre_pl @Pg.post_pl
def Pg.none : Pg := ⟨Hd.none, List.replicate 1000 0, List.replicate 25 false, [], List.replicate 18 0, false, 0⟩
theorem Pg.none_ok : Pg.none.Ok := ⟨by simp [Pg.none], by simp [Pg.none], by simp [Pg.none]⟩
theorem Pg.zero_eq : AV.int IntKind.i64 0 :: AV.int IntKind.i64 0 :: AV.int IntKind.i64 0 :: AV.bool false :: AV.bool false :: AV.bool false :: AV.bool false :: AV.bool false :: AV.bool false :: AV.bool false :: AV.bool false :: AV.bool false :: AV.bool false :: AV.bool false :: AV.int IntKind.i64 0 ::
    (repl 25 (List.map (AV.int IntKind.u8) (List.replicate 40 0)) ++ List.map AV.bool (List.replicate 25 false) ++ [AV.nsl] ++ repl 6 [AV.int IntKind.i64 0, AV.int IntKind.i64 0, AV.int IntKind.i64 0] ++ [AV.bool false] ++ [AV.int IntKind.i64 0]) = Pg.none.enc .nsl := by
  have e1 : repl 25 (List.map (AV.int IntKind.u8) (List.replicate 40 0)) = List.map (AV.int .u8) (List.replicate 1000 0) := by simp [repl]
  have e2 : repl 6 [AV.int IntKind.i64 0, AV.int IntKind.i64 0, AV.int IntKind.i64 0] = List.map (AV.int .i64) (List.replicate 18 0) := rfl
  rw [e1, e2]
  simp only [Pg.enc, Pg.none, Hd.none, Hd.enc, List.cons_append, List.nil_append, List.append_assoc]
def ExOK (x : AV) (l : List Tr) : Prop := x = .isl 3 l.length (flat Tr.enc l) ∨ (x = .nsl ∧ l = [])
theorem t_CloneX (tag : Nat) {x : AV} {l : List Tr} (hx : ExOK x l) (hl : l.length < 1000000) : callω L T 27 tag [x] [none] = some (.fsl 3 l.length (flat Tr.enc l), [none]) := by
  rcases hx with rfl | ⟨rfl, rfl⟩
  · exact t_CloneT tag l hl
  · exact t_CloneT0 tag
def rowF (p : Pg) (row : Int) (data : List Int) : Pg := if row < 1 ∨ 24 < row then p else (p.setRow row.toNat (mrg (p.row row.toNat) data (p.is row.toNat))).setThere row.toNat true
attribute [local irreducible] Pg.enc
theorem t_page_Row (tag : Nat) (p : Pg) (hp : p.Ok) {x : AV} (hx : ExOK x p.extra) (hl : p.extra.length < 1000000) (row : Int) (data : List Int) (hd : data.length < 1000000) (hb : ∀ x ∈ data, 0 ≤ x ∧ x < 256) :
    callω L T 16 tag [.agg (p.enc x), .int .i64 row, .isl 1 data.length (data.map (.int .u8))] [none, none, none] = some (.agg ((rowF p row data).enc (.isl 3 p.extra.length (flat Tr.enc p.extra))), [none, none, none]) := by
  rw [call_ex (show T 16 = some (.code a16) from rfl) rfl rfl]
  have tc := t_CloneX (tag + 1) hx hl
  have oz := Pg.none_ok
  have fl := Tr.flen p.extra
  have fp := Tr.pl p.extra
  unfold rowF
  by_cases h1 : row < 1
  · rw [if_pos (Or.inl h1)]
    rcases hx with rfl | ⟨rfl, he⟩
    all_goals (have fA := And.intro @pgs (And.intro @Pg.zero_eq @fl); have c1 := tc; refine gox ?_; clear fA c1)
    all_goals (have fA := And.intro @pgs (And.intro @fl @fp); refine finx ?_; clear fA; try with_reducible rfl)
  by_cases h2 : 24 < row
  · rw [if_pos (Or.inr h2)]
    rcases hx with rfl | ⟨rfl, he⟩
    all_goals (have fA := And.intro @pgs (And.intro @Pg.zero_eq @fl); have c1 := tc; refine gox ?_; clear fA c1)
    all_goals (have fA := And.intro @pgs (And.intro @fl @fp); refine finx ?_; clear fA; try with_reducible rfl)
  rw [if_neg (by omega)]
  obtain ⟨r, rfl⟩ : ∃ r : Nat, row = r := ⟨row.toNat, by omega⟩
  have hr : r < 25 := by omega
  simp only [Int.toNat_natCast]
  have tm := t_Merge (tag + 1) (p.row r) data (p.is r) (Pg.row_len hp hr) hd hb
  have lm := mrg_len (p.row r) data (p.is r)
  have o1 : (p.setRow r (mrg (p.row r) data (p.is r))).Ok := Pg.setRow_ok hp hr lm
  have o2 : ((p.setRow r (mrg (p.row r) data (p.is r))).setThere r true).Ok := Pg.setThere_ok o1
  generalize mrg (p.row r) data (p.is r) = m at *
  rcases hx with rfl | ⟨rfl, he⟩
  all_goals (have fA := And.intro @pgs (And.intro @Pg.zero_eq @fl); have c1 := tc; have c2 := tm; refine gox ?_; clear fA c1 c2)
  all_goals (have fA := And.intro @pgs (And.intro @fl @fp); refine finx ?_; clear fA; try with_reducible rfl)
  all_goals trace_state

end Go.Proofs.Ytkienchmbfhigaa
