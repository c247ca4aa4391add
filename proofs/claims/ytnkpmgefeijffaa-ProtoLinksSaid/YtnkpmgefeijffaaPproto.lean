/- Functions of the seat, worked off from their code: chunk proto. Written by program (tools/mkp.py) from wip/fn. -/
import Derived.Test.YtnkpmgefeijffaaSimT
import Derived.Test.YtnkpmgefeijffaaSimY
import Derived.Test.YtnkpmgefeijffaaPmatrix
import Derived.Test.YtnkpmgefeijffaaPmatrix2
set_option maxRecDepth 100000
set_option maxHeartbeats 40000000
set_option linter.unusedSimpArgs false
set_option linter.unusedVariables false
namespace Go.Proofs.Ytnkpmgefeijffaa
open Go Go.Sim
attribute [local irreducible] chk brX getX strX setX takeX normX fillX lendX partsX opsX callK lentK lentR giveX adoptX resX joinX headX loopX seqK blkK regK finX exOps ex eqT
attribute [local simp] setR_int setR_bool setR_zero setR_succ repl_int repl_bool List.getElem?_cons_zero List.getElem?_cons_succ List.getElem?_nil w_i64 w_u64 w_u8 bAnd_u8 bOr_u8 bXor_u8 bAndNot_u8 bShl_u8 wrap_u8_range all_plain_int all_plain_bool all_plain_app pl_bool pl_int pl_str pl_nilp pl_nsl pl_nilI pl_nilF take_map_len AV.cells TI.isAgg
structure Ev where
  kind : Int
  a : Int
  b : Int
  c : Int
  d : Int
  set : Int
  code : Int
  deriving DecidableEq
def Ev.enc (s : Ev) : List AV := [.int .i64 s.kind, .int .i64 s.a, .int .i64 s.b, .int .i64 s.c, .int .i64 s.d, .int .i64 s.set, .int .i64 s.code]
theorem Ev.len (s : Ev) : s.enc.length = 7 := rfl
theorem Ev.flen (xs : List Ev) : (flat Ev.enc xs).length = xs.length * 7 := flt_len Ev.len xs
theorem Ev.pl (xs : List Ev) : (flat Ev.enc xs).all AV.plain = true := flt_plain (fun _ => rfl) xs
theorem Ev.rd {xs : List Ev} {i : Nat} (h : i < xs.length) : ((flat Ev.enc xs).drop (i * 7)).take 7 = [.int .i64 xs[i].kind, .int .i64 xs[i].a, .int .i64 xs[i].b, .int .i64 xs[i].c, .int .i64 xs[i].d, .int .i64 xs[i].set, .int .i64 xs[i].code] := flt_rd Ev.len h
theorem Ev.g0 {xs : List Ev} {i : Nat} (h : i < xs.length) : (flat Ev.enc xs)[i * 7]? = some (.int .i64 xs[i].kind) := by simpa [Ev.enc] using flt_get (k := 0) Ev.len h (by omega)
theorem Ev.g1 {xs : List Ev} {i : Nat} (h : i < xs.length) : (flat Ev.enc xs)[i * 7 + 1]? = some (.int .i64 xs[i].a) := flt_get Ev.len h (by omega)
theorem Ev.g2 {xs : List Ev} {i : Nat} (h : i < xs.length) : (flat Ev.enc xs)[i * 7 + 2]? = some (.int .i64 xs[i].b) := flt_get Ev.len h (by omega)
theorem Ev.g3 {xs : List Ev} {i : Nat} (h : i < xs.length) : (flat Ev.enc xs)[i * 7 + 3]? = some (.int .i64 xs[i].c) := flt_get Ev.len h (by omega)
theorem Ev.g4 {xs : List Ev} {i : Nat} (h : i < xs.length) : (flat Ev.enc xs)[i * 7 + 4]? = some (.int .i64 xs[i].d) := flt_get Ev.len h (by omega)
theorem Ev.g5 {xs : List Ev} {i : Nat} (h : i < xs.length) : (flat Ev.enc xs)[i * 7 + 5]? = some (.int .i64 xs[i].set) := flt_get Ev.len h (by omega)
theorem Ev.g6 {xs : List Ev} {i : Nat} (h : i < xs.length) : (flat Ev.enc xs)[i * 7 + 6]? = some (.int .i64 xs[i].code) := flt_get Ev.len h (by omega)
theorem Ev.put {xs : List Ev} {i : Nat} {a0 : Int} {a1 : Int} {a2 : Int} {a3 : Int} {a4 : Int} {a5 : Int} {a6 : Int} (h : i < xs.length) : setR (flat Ev.enc xs) (i * 7) [.int .i64 a0, .int .i64 a1, .int .i64 a2, .int .i64 a3, .int .i64 a4, .int .i64 a5, .int .i64 a6] = flat Ev.enc (xs.set i ⟨a0, a1, a2, a3, a4, a5, a6⟩) := flt_set Ev.len (y := ⟨a0, a1, a2, a3, a4, a5, a6⟩) h
theorem Ev.pute {xs : List Ev} {i : Nat} {y : Ev} (h : i < xs.length) : setR (flat Ev.enc xs) (i * 7) y.enc = flat Ev.enc (xs.set i y) := flt_set Ev.len h
theorem Ev.enc_eq {a0 : Int} {a1 : Int} {a2 : Int} {a3 : Int} {a4 : Int} {a5 : Int} {a6 : Int} : Ev.enc ⟨a0, a1, a2, a3, a4, a5, a6⟩ = [.int .i64 a0, .int .i64 a1, .int .i64 a2, .int .i64 a3, .int .i64 a4, .int .i64 a5, .int .i64 a6] := rfl
theorem Ev.s0 {xs : List Ev} {i : Nat} {v : Int} (h : i < xs.length) : setR (flat Ev.enc xs) (i * 7) [.int .i64 v] = flat Ev.enc (xs.set i { xs[i] with kind := v }) := by simpa using flt_setk (k := 0) Ev.len h (by simp) (show setR (Ev.enc xs[i]) 0 [.int .i64 v] = Ev.enc { xs[i] with kind := v } from rfl)
theorem Ev.s1 {xs : List Ev} {i : Nat} {v : Int} (h : i < xs.length) : setR (flat Ev.enc xs) (i * 7 + 1) [.int .i64 v] = flat Ev.enc (xs.set i { xs[i] with a := v }) := flt_setk (k := 1) Ev.len h (by simp) (show setR (Ev.enc xs[i]) 1 [.int .i64 v] = Ev.enc { xs[i] with a := v } from rfl)
theorem Ev.s2 {xs : List Ev} {i : Nat} {v : Int} (h : i < xs.length) : setR (flat Ev.enc xs) (i * 7 + 2) [.int .i64 v] = flat Ev.enc (xs.set i { xs[i] with b := v }) := flt_setk (k := 2) Ev.len h (by simp) (show setR (Ev.enc xs[i]) 2 [.int .i64 v] = Ev.enc { xs[i] with b := v } from rfl)
theorem Ev.s3 {xs : List Ev} {i : Nat} {v : Int} (h : i < xs.length) : setR (flat Ev.enc xs) (i * 7 + 3) [.int .i64 v] = flat Ev.enc (xs.set i { xs[i] with c := v }) := flt_setk (k := 3) Ev.len h (by simp) (show setR (Ev.enc xs[i]) 3 [.int .i64 v] = Ev.enc { xs[i] with c := v } from rfl)
theorem Ev.s4 {xs : List Ev} {i : Nat} {v : Int} (h : i < xs.length) : setR (flat Ev.enc xs) (i * 7 + 4) [.int .i64 v] = flat Ev.enc (xs.set i { xs[i] with d := v }) := flt_setk (k := 4) Ev.len h (by simp) (show setR (Ev.enc xs[i]) 4 [.int .i64 v] = Ev.enc { xs[i] with d := v } from rfl)
theorem Ev.s5 {xs : List Ev} {i : Nat} {v : Int} (h : i < xs.length) : setR (flat Ev.enc xs) (i * 7 + 5) [.int .i64 v] = flat Ev.enc (xs.set i { xs[i] with set := v }) := flt_setk (k := 5) Ev.len h (by simp) (show setR (Ev.enc xs[i]) 5 [.int .i64 v] = Ev.enc { xs[i] with set := v } from rfl)
theorem Ev.s6 {xs : List Ev} {i : Nat} {v : Int} (h : i < xs.length) : setR (flat Ev.enc xs) (i * 7 + 6) [.int .i64 v] = flat Ev.enc (xs.set i { xs[i] with code := v }) := flt_setk (k := 6) Ev.len h (by simp) (show setR (Ev.enc xs[i]) 6 [.int .i64 v] = Ev.enc { xs[i] with code := v } from rfl)
def Ev.none : Ev := ⟨0, 0, 0, 0, 0, 0, 0⟩
theorem Ev.zero (n : Nat) : repl n [.int .i64 0, .int .i64 0, .int .i64 0, .int .i64 0, .int .i64 0, .int .i64 0, .int .i64 0] = flat Ev.enc (List.replicate n Ev.none) := flt_repl n Ev.none [.int .i64 0, .int .i64 0, .int .i64 0, .int .i64 0, .int .i64 0, .int .i64 0, .int .i64 0] rfl
def Ev.ok (s : Ev) : Prop := (Lit.int .i64 s.kind).wf = true ∧ (Lit.int .i64 s.a).wf = true ∧ (Lit.int .i64 s.b).wf = true ∧ (Lit.int .i64 s.c).wf = true ∧ (Lit.int .i64 s.d).wf = true ∧ (Lit.int .i64 s.set).wf = true ∧ (Lit.int .i64 s.code).wf = true
theorem Ev.of {n : Nat} {fs : List (Nat × Nat)} {cs : List AV} (h : zipShp (Shp L (n + 1)) fs cs) (hs : fs.map (dsc L) = [some (.int .i64), some (.int .i64), some (.int .i64), some (.int .i64), some (.int .i64), some (.int .i64), some (.int .i64)]) : ∃ s : Ev, cs = s.enc ∧ s.ok := by
  obtain ⟨x0, gs, r, rfl, w0, h, hs⟩ := zipd_int h hs
  obtain ⟨x1, gs, r, rfl, w1, h, hs⟩ := zipd_int h hs
  obtain ⟨x2, gs, r, rfl, w2, h, hs⟩ := zipd_int h hs
  obtain ⟨x3, gs, r, rfl, w3, h, hs⟩ := zipd_int h hs
  obtain ⟨x4, gs, r, rfl, w4, h, hs⟩ := zipd_int h hs
  obtain ⟨x5, gs, r, rfl, w5, h, hs⟩ := zipd_int h hs
  obtain ⟨x6, gs, r, rfl, w6, h, hs⟩ := zipd_int h hs
  obtain rfl := zipd_nil h hs
  exact ⟨⟨x0, x1, x2, x3, x4, x5, x6⟩, rfl, ⟨w0, w1, w2, w3, w4, w5, w6⟩⟩
theorem Ev.parts {n e sz bt : Nat} {fs : List (Nat × Nat)} {z : List AV} (hl : L e = some ⟨.strct fs, sz, bt, z⟩) (hs : fs.map (dsc L) = [some (.int .i64), some (.int .i64), some (.int .i64), some (.int .i64), some (.int .i64), some (.int .i64), some (.int .i64)]) (ps : List (List AV)) (h : ∀ p ∈ ps, Shp L (n + 2) e p) : ∃ ys : List Ev, ps.flatten = flat Ev.enc ys ∧ ys.length = ps.length ∧ ∀ y ∈ ys, y.ok :=
  parts_flat (fun p hp => Ev.of (shp_strct hl hp) hs) ps h

attribute [local simp] Ev.flen Ev.rd Ev.g0 Ev.g1 Ev.g2 Ev.g3 Ev.g4 Ev.g5 Ev.g6 Ev.put Ev.pute Ev.s0 Ev.s1 Ev.s2 Ev.s3 Ev.s4 Ev.s5 Ev.s6 Ev.zero Ev.enc

/-- The state: who hears whom (16 of them, row by row), and the rest. -/
structure PS where
  m : Nat → Bool
  roll : Bool
  lower : Bool
  ext : Bool
  c0 : Bool
  speed : Int
  echo : Bool
def mEnc (m : Nat → Bool) : List AV := [.bool (m 0), .bool (m 1), .bool (m 2), .bool (m 3), .bool (m 4), .bool (m 5), .bool (m 6), .bool (m 7), .bool (m 8), .bool (m 9), .bool (m 10), .bool (m 11), .bool (m 12), .bool (m 13), .bool (m 14), .bool (m 15)]
def lst (m : Nat → Bool) : List Bool := [m 0, m 1, m 2, m 3, m 4, m 5, m 6, m 7, m 8, m 9, m 10, m 11, m 12, m 13, m 14, m 15]
def PS.enc (s : PS) : List AV := [.bool (s.m 0), .bool (s.m 1), .bool (s.m 2), .bool (s.m 3), .bool (s.m 4), .bool (s.m 5), .bool (s.m 6), .bool (s.m 7), .bool (s.m 8), .bool (s.m 9), .bool (s.m 10), .bool (s.m 11), .bool (s.m 12), .bool (s.m 13), .bool (s.m 14), .bool (s.m 15), .bool s.roll, .bool s.lower, .bool s.ext, .bool s.c0, .int .u8 s.speed, .bool s.echo]
theorem lst_len (m : Nat → Bool) : (lst m).length = 16 := rfl
theorem lst_get (m : Nat → Bool) (j : Nat) (h : j < 16) : (lst m).getD j false = m j := by
  have : j = 0 ∨ j = 1 ∨ j = 2 ∨ j = 3 ∨ j = 4 ∨ j = 5 ∨ j = 6 ∨ j = 7 ∨ j = 8 ∨ j = 9 ∨ j = 10 ∨ j = 11 ∨ j = 12 ∨ j = 13 ∨ j = 14 ∨ j = 15 := by omega
  rcases this with rfl | rfl | rfl | rfl | rfl | rfl | rfl | rfl | rfl | rfl | rfl | rfl | rfl | rfl | rfl | rfl <;> rfl
def upd (m : Nat → Bool) (to' fr : Int) (on : Bool) : Nat → Bool := fun j => if maySet to' fr = true ∧ j = to'.toNat * 4 + fr.toNat then on else m j
theorem setB_lst (m : Nat → Bool) (to' fr : Int) (on : Bool) : setB (lst m) to' fr on = lst (upd m to' fr on) := by
  unfold setB upd
  by_cases h : maySet to' fr = true
  · simp only [h, if_true, true_and]
    have h' := h
    simp only [maySet, Bool.and_eq_true] at h'
    obtain ⟨a, ha, rfl⟩ := in4_nat h'.1.1.1
    obtain ⟨b, hb, rfl⟩ := in4_nat h'.1.1.2
    simp only [Int.toNat_natCast]
    apply List.ext_getElem
    · simp [lst]
    · intro i h1 h2
      have h3 : i < 16 := by simpa [lst] using h2
      have e := lst_get (fun j => if j = a * 4 + b then on else m j) i h3
      have e2 := lst_get m i h3
      rw [List.getD_eq_getElem?_getD, List.getElem?_eq_getElem h2, Option.getD_some] at e
      rw [e, List.getElem_set]
      rw [List.getD_eq_getElem?_getD, List.getElem?_eq_getElem (by simpa [lst] using h3), Option.getD_some] at e2
      by_cases hi : a * 4 + b = i
      · rw [if_pos hi, if_pos hi.symm]
      · rw [if_neg hi, if_neg (fun x => hi x.symm), e2]
  · simp [h]
/-- Does a module hear another one? -/
def hears (m : Nat → Bool) (to' fr : Int) : Bool := in4 to' && in4 fr && m (to'.toNat * 4 + fr.toNat)
theorem hears_lst (m : Nat → Bool) (to' fr : Int) : hearsB (lst m) to' fr = hears m to' fr := by
  unfold hearsB hears
  cases h1 : in4 to' with
  | false => rfl
  | true =>
    cases h2 : in4 fr with
    | false => rfl
    | true =>
      obtain ⟨a, ha, rfl⟩ := in4_nat h1
      obtain ⟨b, hb, rfl⟩ := in4_nat h2
      rw [lst_get m _ (by simp only [Int.toNat_natCast]; omega)]
def stat (m : Nat → Bool) (to' : Int) : Int := st4 (hears m to' 0) (hears m to' 1) (hears m to' 2) (hears m to' 3)
theorem stat_lst (m : Nat → Bool) (to' : Int) : statusI (lst m) to' = stat m to' := by unfold statusI stat; simp only [hears_lst]
def startM : Nat → Bool := fun j => decide (j = 2 ∨ j = 9)
theorem start_lst : startB = lst startM := by decide
def modesI (s : PS) : Int := 64 + (if s.roll then 2 else 0) + (if s.lower then 8 else 0)
def boardI (s : PS) : Int := 64 + (if s.ext then 1 else 0) + (if s.c0 then 4 else 0)
def PS.start : PS := ⟨startM, false, false, false, false, 100, false⟩
def linkL (s : PS) (md : Int) : List Int := [27, 59, 99, codeI md true, stat s.m md]
def firstF (s : PS) (b : Int) : PS × List Int :=
  if b = 112 then (s, [27, 58, 113, 74]) else if b = 114 then (s, [27, 58, 115, modesI s]) else if b = 116 then (s, [27, 58, 117, s.speed])
  else if b = 118 then (s, [27, 58, 119, 64]) else if b = 123 then (s, [1, 67, 117, 60, 4]) else if b = 127 then (PS.start, []) else (s, [])
/-- A code's module, and whether there is one. -/
def toI (c : Int) : Int × Bool := if 88 ≤ c ∧ c < 92 then (c - 88, true) else (0, false)
def fromI (c : Int) : Int × Bool := if 80 ≤ c ∧ c < 84 then (c - 80, true) else (0, false)
def secondF (s : PS) (b c : Int) : PS × List Int :=
  if b = 105 ∨ b = 106 then
    (if c = 67 then let t := { s with roll := decide (b = 105) }; (t, [27, 58, 115, modesI t])
     else if c = 69 then let t := { s with lower := decide (b = 105) }; (t, [27, 58, 115, modesI t]) else (s, []))
  else if b = 107 then (if c < 64 ∨ 127 < c then (s, []) else ({ s with speed := c }, [27, 58, 117, c]))
  else if b = 98 then (if (toI c).2 then (s, linkL s (toI c).1) else (s, []))
  else if b = 114 then (if c = 89 then (s, [27, 59, 115, 89, boardI s]) else (s, []))
  else (s, [])
def thirdF (s : PS) (b c d : Int) : PS × List Int :=
  if b = 96 ∨ b = 97 then
    (if (toI c).2 ∧ (fromI d).2 then let t := { s with m := upd s.m (toI c).1 (fromI d).1 (decide (b = 97)) }; (t, linkL t (toI c).1) else (s, []))
  else if b = 105 ∨ b = 106 then
    (if c = 89 ∧ d = 65 then let t := { s with ext := decide (b = 105) }; (t, [27, 59, 115, 89, boardI t])
     else if c = 89 ∧ d = 67 then let t := { s with c0 := decide (b = 105) }; (t, [27, 59, 115, 89, boardI t]) else (s, []))
  else (s, [])
def withEcho (p : PS × List Int) : PS × List Int := ({ p.1 with echo := hears p.1.m 0 1 }, p.2)
def askF (s : PS) (e : Ev) : PS × List Int :=
  if e.kind = 10 then withEcho (if e.a = 1 then firstF s e.b else if e.a = 2 then secondF s e.b e.c else if e.a = 3 then thirdF s e.b e.c e.d else (s, [])) else (s, [])
def ansAV (l : List Int) : AV := .fsl 1 l.length (l.map (.int .u8))
theorem PS.len (s : PS) : s.enc.length = 22 := rfl
theorem rep_len : (repl 4 [AV.bool false, AV.bool false, AV.bool false, AV.bool false]).length = 16 := rfl
theorem ask_len (l : List Int) : (l.map (AV.int .u8)).length = l.length := List.length_map ..
attribute [local simp] PS.len rep_len
theorem t_bit (tag : Nat) (is : Bool) (n : Int) : callω L T 34 tag [.bool is, .int .u8 n] [none, none] = some (.int .u8 (if is then n else 0), [none, none]) := by
  rw [call_ex (show T 34 = some (.code a34) from rfl) rfl rfl]
  cases is <;> ((refine gox ?_); (refine finx ?_; try with_reducible rfl); rfl)
theorem t_Modes (tag : Nat) (s : PS) : callω L T 17 tag [.agg s.enc] [none] = some (.int .u8 (modesI s), [none]) := by
  rw [call_ex (show T 17 = some (.code a17) from rfl) rfl rfl]
  have e : bOr .u8 (bOr .u8 64 (if s.roll then 2 else 0)) (if s.lower then 8 else 0) = modesI s := by unfold modesI; cases s.roll <;> cases s.lower <;> decide
  (have c1 := fun x1 x2 x3 => t_bit x1 x2 x3; refine gox ?_; clear c1)
  (refine finx ?_; try with_reducible rfl)
  rw [e]
theorem t_Board (tag : Nat) (s : PS) : callω L T 19 tag [.agg s.enc] [none] = some (.int .u8 (boardI s), [none]) := by
  rw [call_ex (show T 19 = some (.code a19) from rfl) rfl rfl]
  have e : bOr .u8 (bOr .u8 64 (if s.ext then 1 else 0)) (if s.c0 then 4 else 0) = boardI s := by unfold boardI; cases s.ext <;> cases s.c0 <;> decide
  (have c1 := fun x1 x2 x3 => t_bit x1 x2 x3; refine gox ?_; clear c1)
  (refine finx ?_; try with_reducible rfl)
  rw [e]
theorem t_short (tag : Nat) (a b : Int) : callω L T 36 tag [.int .u8 a, .int .u8 b] [none, none] = some (ansAV [27, 58, a, b], [none, none]) := by
  rw [call_ex (show T 36 = some (.code a36) from rfl) rfl rfl]
  (refine gox ?_)
  (refine finx ?_; try with_reducible rfl)
  rfl
theorem t_long (tag : Nat) (a b c : Int) : callω L T 39 tag [.int .u8 a, .int .u8 b, .int .u8 c] [none, none, none] = some (ansAV [27, 59, a, b, c], [none, none, none]) := by
  rw [call_ex (show T 39 = some (.code a39) from rfl) rfl rfl]
  (refine gox ?_)
  (refine finx ?_; try with_reducible rfl)
  rfl
theorem t_proto_Start (tag : Nat) : callω L T 10 tag [] [] = some (.agg PS.start.enc, []) := by
  rw [call_ex (show T 10 = some (.code a10) from rfl) rfl rfl]
  (have c1 := fun x1 => t_matrix_Start x1; refine gox ?_; clear c1)
  (refine finx ?_; try with_reducible rfl)
  rfl
theorem t_proto_first (tag : Nat) (s : PS) (b : Int) : callω L T 26 tag [.agg s.enc, .int .i64 b] [none, none] = some (.tup [.agg (firstF s b).1.enc, ansAV (firstF s b).2], [none, none]) := by
  rw [call_ex (show T 26 = some (.code a26) from rfl) rfl rfl]
  unfold firstF
  by_cases h1 : b = 112
  · subst h1
    (have c1 := fun x1 x2 x3 => t_short x1 x2 x3; refine gox ?_; clear c1)
    (refine finx ?_; try with_reducible rfl)
    rfl
  rw [if_neg h1]
  by_cases h2 : b = 114
  · subst h2
    (have c1 := fun x1 => t_Modes x1 s; have c2 := fun x1 x2 x3 => t_short x1 x2 x3; refine gox ?_; clear c1 c2)
    (refine finx ?_; try with_reducible rfl)
    rfl
  rw [if_neg h2]
  by_cases h3 : b = 116
  · subst h3
    (have c1 := fun x1 x2 x3 => t_short x1 x2 x3; refine gox ?_; clear c1)
    (refine finx ?_; try with_reducible rfl)
    rfl
  rw [if_neg h3]
  by_cases h4 : b = 118
  · subst h4
    (have c1 := fun x1 x2 x3 => t_short x1 x2 x3; refine gox ?_; clear c1)
    (refine finx ?_; try with_reducible rfl)
    rfl
  rw [if_neg h4]
  by_cases h5 : b = 123
  · subst h5
    (refine gox ?_)
    (refine finx ?_; try with_reducible rfl)
    rfl
  rw [if_neg h5]
  by_cases h6 : b = 127
  · subst h6
    (have c1 := fun x1 => t_proto_Start x1; refine gox ?_; clear c1)
    (refine finx ?_; try with_reducible rfl)
    rfl
  rw [if_neg h6]
  (refine gox ?_)
  (refine finx ?_; try with_reducible rfl)
  rfl
theorem t_proto_to (tag : Nat) (c : Int) : callω L T 37 tag [.int .i64 c] [none] = some (.tup [.int .i64 (toI c).1, .bool (toI c).2], [none]) := by
  rw [call_ex (show T 37 = some (.code a37) from rfl) rfl rfl]
  by_cases h0 : c < 0
  · have e : toI c = (0, false) := if_neg (by omega)
    (refine gox ?_)
    (refine finx ?_; try with_reducible rfl)
    rw [e]; rfl
  by_cases h1 : 255 < c
  · have e : toI c = (0, false) := if_neg (by omega)
    (refine gox ?_)
    (refine finx ?_; try with_reducible rfl)
    rw [e]; rfl
  have w : IntKind.u8.wrap c = c := w_u8 (by omega) (by omega)
  have t := fun tag => t_matrix_To tag c (by omega) (by omega)
  have e : (if in4 (c - 88) = true then c - 88 else 0) = (toI c).1 ∧ in4 (c - 88) = (toI c).2 := by
    unfold toI in4
    by_cases h : 88 ≤ c ∧ c < 92
    · rw [if_pos h]; simp; omega
    · rw [if_neg h]; simp; omega
  rw [e.1, e.2, ← w] at t
  (have c1 := fun x1 => t x1; refine gox ?_; clear c1)
  (refine finx ?_; try with_reducible rfl)
  rw [w]
theorem t_linked (tag : Nat) (s : PS) (md : Int) : callω L T 38 tag [.agg s.enc, .int .i64 md] [none, none] = some (ansAV (linkL s md), [none, none]) := by
  rw [call_ex (show T 38 = some (.code a38) from rfl) rfl rfl]
  have ts := t_matrix_Status (tag + 1) (lst s.m) rfl md
  rw [stat_lst] at ts
  (have c1 := fun x1 x2 x3 => t_matrix_Code x1 x2 x3; have c2 := ts; have c3 := fun x1 x2 x3 x4 => t_long x1 x2 x3 x4; refine gox ?_; clear c1 c2 c3)
  (refine finx ?_; try with_reducible rfl)
  rfl

end Go.Proofs.Ytnkpmgefeijffaa
