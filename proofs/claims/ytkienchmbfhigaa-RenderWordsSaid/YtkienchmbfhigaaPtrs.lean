/- Functions of the seat, worked off from their code: chunk trs. Written by program (tools/mkp.py) from wip/fn. -/
import Derived.Test.YtkienchmbfhigaaSimT
import Derived.Test.YtkienchmbfhigaaSimY

set_option maxRecDepth 100000
set_option maxHeartbeats 40000000
set_option linter.unusedSimpArgs false
set_option linter.unusedVariables false
namespace Go.Proofs.Ytkienchmbfhigaa
open Go Go.Sim
attribute [local irreducible] chk brX getX strX setX takeX normX fillX lendX partsX opsX callK lentK lentR giveX adoptX resX joinX headX loopX seqK blkK regK finX exOps ex eqT
attribute [local simp] setR_int setR_bool setR_zero setR_succ repl_int repl_bool List.getElem?_cons_zero List.getElem?_cons_succ List.getElem?_nil w_i64 w_u64 w_u8 bAnd_u8 bOr_u8 bXor_u8 bAndNot_u8 bShl_u8 wrap_u8_range all_plain_int all_plain_bool all_plain_app pl_bool pl_int pl_str pl_nilp pl_nsl pl_nilI pl_nilF take_map_len AV.cells TI.isAgg
structure Tr where
  addr : Int
  mode : Int
  data : Int
  deriving DecidableEq
def Tr.enc (s : Tr) : List AV := [.int .i64 s.addr, .int .i64 s.mode, .int .i64 s.data]
theorem Tr.len (s : Tr) : s.enc.length = 3 := rfl
theorem Tr.flen (xs : List Tr) : (flat Tr.enc xs).length = xs.length * 3 := flt_len Tr.len xs
theorem Tr.pl (xs : List Tr) : (flat Tr.enc xs).all AV.plain = true := flt_plain (fun _ => rfl) xs
theorem Tr.rd {xs : List Tr} {i : Nat} (h : i < xs.length) : ((flat Tr.enc xs).drop (i * 3)).take 3 = [.int .i64 xs[i].addr, .int .i64 xs[i].mode, .int .i64 xs[i].data] := flt_rd Tr.len h
theorem Tr.g0 {xs : List Tr} {i : Nat} (h : i < xs.length) : (flat Tr.enc xs)[i * 3]? = some (.int .i64 xs[i].addr) := by simpa [Tr.enc] using flt_get (k := 0) Tr.len h (by omega)
theorem Tr.g1 {xs : List Tr} {i : Nat} (h : i < xs.length) : (flat Tr.enc xs)[i * 3 + 1]? = some (.int .i64 xs[i].mode) := flt_get Tr.len h (by omega)
theorem Tr.g2 {xs : List Tr} {i : Nat} (h : i < xs.length) : (flat Tr.enc xs)[i * 3 + 2]? = some (.int .i64 xs[i].data) := flt_get Tr.len h (by omega)
theorem Tr.put {xs : List Tr} {i : Nat} {a0 : Int} {a1 : Int} {a2 : Int} (h : i < xs.length) : setR (flat Tr.enc xs) (i * 3) [.int .i64 a0, .int .i64 a1, .int .i64 a2] = flat Tr.enc (xs.set i ⟨a0, a1, a2⟩) := flt_set Tr.len (y := ⟨a0, a1, a2⟩) h
theorem Tr.pute {xs : List Tr} {i : Nat} {y : Tr} (h : i < xs.length) : setR (flat Tr.enc xs) (i * 3) y.enc = flat Tr.enc (xs.set i y) := flt_set Tr.len h
theorem Tr.enc_eq {a0 : Int} {a1 : Int} {a2 : Int} : Tr.enc ⟨a0, a1, a2⟩ = [.int .i64 a0, .int .i64 a1, .int .i64 a2] := rfl
theorem Tr.s0 {xs : List Tr} {i : Nat} {v : Int} (h : i < xs.length) : setR (flat Tr.enc xs) (i * 3) [.int .i64 v] = flat Tr.enc (xs.set i { xs[i] with addr := v }) := by simpa using flt_setk (k := 0) Tr.len h (by simp) (show setR (Tr.enc xs[i]) 0 [.int .i64 v] = Tr.enc { xs[i] with addr := v } from rfl)
theorem Tr.s1 {xs : List Tr} {i : Nat} {v : Int} (h : i < xs.length) : setR (flat Tr.enc xs) (i * 3 + 1) [.int .i64 v] = flat Tr.enc (xs.set i { xs[i] with mode := v }) := flt_setk (k := 1) Tr.len h (by simp) (show setR (Tr.enc xs[i]) 1 [.int .i64 v] = Tr.enc { xs[i] with mode := v } from rfl)
theorem Tr.s2 {xs : List Tr} {i : Nat} {v : Int} (h : i < xs.length) : setR (flat Tr.enc xs) (i * 3 + 2) [.int .i64 v] = flat Tr.enc (xs.set i { xs[i] with data := v }) := flt_setk (k := 2) Tr.len h (by simp) (show setR (Tr.enc xs[i]) 2 [.int .i64 v] = Tr.enc { xs[i] with data := v } from rfl)
def Tr.none : Tr := ⟨0, 0, 0⟩
theorem Tr.zero (n : Nat) : repl n [.int .i64 0, .int .i64 0, .int .i64 0] = flat Tr.enc (List.replicate n Tr.none) := flt_repl n Tr.none [.int .i64 0, .int .i64 0, .int .i64 0] rfl
def Tr.ok (s : Tr) : Prop := (Lit.int .i64 s.addr).wf = true ∧ (Lit.int .i64 s.mode).wf = true ∧ (Lit.int .i64 s.data).wf = true
theorem Tr.of {n : Nat} {fs : List (Nat × Nat)} {cs : List AV} (h : zipShp (Shp L (n + 1)) fs cs) (hs : fs.map (dsc L) = [some (.int .i64), some (.int .i64), some (.int .i64)]) : ∃ s : Tr, cs = s.enc ∧ s.ok := by
  obtain ⟨x0, gs, r, rfl, w0, h, hs⟩ := zipd_int h hs
  obtain ⟨x1, gs, r, rfl, w1, h, hs⟩ := zipd_int h hs
  obtain ⟨x2, gs, r, rfl, w2, h, hs⟩ := zipd_int h hs
  obtain rfl := zipd_nil h hs
  exact ⟨⟨x0, x1, x2⟩, rfl, ⟨w0, w1, w2⟩⟩
theorem Tr.parts {n e sz bt : Nat} {fs : List (Nat × Nat)} {z : List AV} (hl : L e = some ⟨.strct fs, sz, bt, z⟩) (hs : fs.map (dsc L) = [some (.int .i64), some (.int .i64), some (.int .i64)]) (ps : List (List AV)) (h : ∀ p ∈ ps, Shp L (n + 2) e p) : ∃ ys : List Tr, ps.flatten = flat Tr.enc ys ∧ ys.length = ps.length ∧ ∀ y ∈ ys, y.ok :=
  parts_flat (fun p hp => Tr.of (shp_strct hl hp) hs) ps h

end Go.Proofs.Ytkienchmbfhigaa
