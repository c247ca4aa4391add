/- Part of the proof: an interpreter of the model, proved sound, and what it makes of the functions. -/
import Derived.Test.YtbaenaalfpcaaaaGreatDoorA5
import Derived.Test.YtbaenaalfpcaaaaGreatDoorA4
import Derived.Test.YtbaenaalfpcaaaaGreatDoorB1
set_option linter.unusedVariables false
set_option linter.unusedSimpArgs false
set_option maxRecDepth 100000
set_option maxHeartbeats 40000000
namespace Go.Proofs.YtbaenaalfpcaaaaGreatDoor
open Go Go.Sim
attribute [local irreducible] chk brX hX finH keyX visit packed backPk backOk backHeap stays getAll getX strX setX takeX normX fillX lendX partsX opsX callK lentK lentR giveX adoptX resX joinX headX loopX seqK blkK regK finX exOps ex eqT finMX matAll
attribute [local simp] zc2 zbg zbd zau zbm zb6 List.getElem?_cons_zero List.getElem?_cons_succ List.getElem?_nil w_i64 w_u64 w_u8 zcu bOr_u8 zcv zb3 zd0 zaj zar zao zaq zcy pl_int pl_str zcz pl_nsl zd1 zcx zag AV.cells TI.isAgg
section
structure Slot where
 glyph : Int
 fg : Int
 flash : Bool
 invert : Bool
 high : Int
 wide : Int
 mark : Bool
 bg : Int
 under : Bool
 conceal : Bool
 deriving DecidableEq
def Slot.enc (s : Slot) : List AV := [.int .i64 s.glyph, .int .i64 s.fg, .bool s.flash, .bool s.invert, .int .i64 s.high, .int .i64 s.wide, .bool s.mark, .int .i64 s.bg, .bool s.under, .bool s.conceal]
theorem Slot.len (s : Slot) : s.enc.length = 10 := rfl
theorem Slot.flen (xs : List Slot) : (flat Slot.enc xs).length = xs.length * 10 := zhk Slot.len xs
theorem Slot.pl (xs : List Slot) : (flat Slot.enc xs).all AV.plain = true := zjn (fun _ => rfl) xs
theorem Slot.rd {xs : List Slot} {i : Nat} (h : i < xs.length) : ((flat Slot.enc xs).drop (i * 10)).take 10 = [.int .i64 xs[i].glyph, .int .i64 xs[i].fg, .bool xs[i].flash, .bool xs[i].invert, .int .i64 xs[i].high, .int .i64 xs[i].wide, .bool xs[i].mark, .int .i64 xs[i].bg, .bool xs[i].under, .bool xs[i].conceal] := flt_rd Slot.len h
theorem Slot.pute {xs : List Slot} {i : Nat} {y : Slot} (h : i < xs.length) : setR (flat Slot.enc xs) (i * 10) y.enc = flat Slot.enc (xs.set i y) := zp7 Slot.len h
def Slot.none : Slot := ⟨0, 0, false, false, 0, 0, false, 0, false, false⟩
theorem Slot.zero (n : Nat) : repl n [.int .i64 0, .int .i64 0, .bool false, .bool false, .int .i64 0, .int .i64 0, .bool false, .int .i64 0, .bool false, .bool false] = flat Slot.enc (List.replicate n Slot.none) := flt_repl n Slot.none [.int .i64 0, .int .i64 0, .bool false, .bool false, .int .i64 0, .int .i64 0, .bool false, .int .i64 0, .bool false, .bool false] rfl
structure Cell where
 glyph : Int
 fg : Int
 bg : Int
 flash : Bool
 conceal : Bool
 box : Bool
 under : Bool
 invert : Bool
 high : Int
 wide : Int
 deriving DecidableEq
def Cell.enc (s : Cell) : List AV := [.int .i64 s.glyph, .int .i64 s.fg, .int .i64 s.bg, .bool s.flash, .bool s.conceal, .bool s.box, .bool s.under, .bool s.invert, .int .i64 s.high, .int .i64 s.wide]
theorem Cell.len (s : Cell) : s.enc.length = 10 := rfl
theorem Cell.flen (xs : List Cell) : (flat Cell.enc xs).length = xs.length * 10 := zhk Cell.len xs
theorem Cell.pl (xs : List Cell) : (flat Cell.enc xs).all AV.plain = true := zjn (fun _ => rfl) xs
theorem Cell.rd {xs : List Cell} {i : Nat} (h : i < xs.length) : ((flat Cell.enc xs).drop (i * 10)).take 10 = [.int .i64 xs[i].glyph, .int .i64 xs[i].fg, .int .i64 xs[i].bg, .bool xs[i].flash, .bool xs[i].conceal, .bool xs[i].box, .bool xs[i].under, .bool xs[i].invert, .int .i64 xs[i].high, .int .i64 xs[i].wide] := flt_rd Cell.len h
theorem Cell.put {xs : List Cell} {i : Nat} {a0 : Int} {a1 : Int} {a2 : Int} {a3 : Bool} {a4 : Bool} {a5 : Bool} {a6 : Bool} {a7 : Bool} {a8 : Int} {a9 : Int} (h : i < xs.length) : setR (flat Cell.enc xs) (i * 10) [.int .i64 a0, .int .i64 a1, .int .i64 a2, .bool a3, .bool a4, .bool a5, .bool a6, .bool a7, .int .i64 a8, .int .i64 a9] = flat Cell.enc (xs.set i ⟨a0, a1, a2, a3, a4, a5, a6, a7, a8, a9⟩) := zp7 Cell.len (y := ⟨a0, a1, a2, a3, a4, a5, a6, a7, a8, a9⟩) h
theorem Cell.pute {xs : List Cell} {i : Nat} {y : Cell} (h : i < xs.length) : setR (flat Cell.enc xs) (i * 10) y.enc = flat Cell.enc (xs.set i y) := zp7 Cell.len h
def Cell.none : Cell := ⟨0, 0, 0, false, false, false, false, false, 0, 0⟩
theorem Cell.zero (n : Nat) : repl n [.int .i64 0, .int .i64 0, .int .i64 0, .bool false, .bool false, .bool false, .bool false, .bool false, .int .i64 0, .int .i64 0] = flat Cell.enc (List.replicate n Cell.none) := flt_repl n Cell.none [.int .i64 0, .int .i64 0, .int .i64 0, .bool false, .bool false, .bool false, .bool false, .bool false, .int .i64 0, .int .i64 0] rfl
end
section
attribute [local simp] Ev.flen Ev.rd Ev.enc Slot.flen Slot.rd Slot.pute Slot.zero Slot.enc
structure Scr where
 row : Int
 col : Int
 fg : Int
 bg : Int
 flash : Bool
 inv : Bool
 under : Bool
 conc : Bool
 tall : Bool
 wide : Bool
 cursor : Bool
 roll : Bool
 masks : Bool
 bells : Int
 sl : List Slot
 waits : Bool
 row0 : Int
 col0 : Int
 wr : Ev
def Scr.enc (s : Scr) : List AV :=
 .int .i64 s.row :: .int .i64 s.col :: .int .i64 s.fg :: .int .i64 s.bg :: .bool s.flash :: .bool s.inv :: .bool s.under :: .bool s.conc :: .bool s.tall :: .bool s.wide :: .bool s.cursor :: .bool s.roll :: .bool s.masks :: .int .i64 s.bells ::
 (flat Slot.enc s.sl ++ [.bool s.waits, .int .i64 s.row0, .int .i64 s.col0, .int .i64 s.wr.kind, .int .i64 s.wr.a, .int .i64 s.wr.b, .int .i64 s.wr.c, .int .i64 s.wr.d, .int .i64 s.wr.set, .int .i64 s.wr.code])
def blk : Slot := ⟨32, 7, false, false, 0, 0, false, 0, false, false⟩
def blks (n : Nat) : List Slot := List.replicate n blk
theorem sl_len {sl : List Slot} (h : sl.length = 1000) : (flat Slot.enc sl).length = 10000 := by rw [Slot.flen, h]
theorem sl_app (a b : List Slot) : flat Slot.enc (a ++ b) = flat Slot.enc a ++ flat Slot.enc b := by simp [flat]
theorem zak (n : Nat) : (blks n).length = n := by simp [blks]
theorem zgd (n : Nat) : (flat Slot.enc (blks n)).length = n * 10 := by rw [Slot.flen, zak]
def ovr (sl : List Slot) (k : Nat) (v : List Slot) : List Slot := sl.take k ++ v ++ sl.drop (k + v.length)
theorem zbe {sl v : List Slot} {k : Nat} (h : k + v.length ≤ sl.length) : (ovr sl k v).length = sl.length := by simp [ovr]; omega
theorem ziv {sl : List Slot} (k : Nat) : (flat Slot.enc sl).take (k * 10) = flat Slot.enc (sl.take k) := by
 rcases Nat.le_total k sl.length with h | h
 ·rw [← List.take_append_drop k sl, sl_app, List.take_append_of_le_length (by rw [Slot.flen]; simp; omega), List.take_of_length_le (by rw [Slot.flen]; simp; omega), List.take_append_drop]
 ·rw [List.take_of_length_le h, List.take_of_length_le (by rw [Slot.flen]; omega)]
theorem zgx {sl : List Slot} (k : Nat) : (flat Slot.enc sl).drop (k * 10) = flat Slot.enc (sl.drop k) := by
 rcases Nat.le_total k sl.length with h | h
 ·have e := sl_app (sl.take k) (sl.drop k)
  rw [List.take_append_drop] at e
  rw [e, List.drop_append_of_le_length (by rw [Slot.flen]; simp; omega), List.drop_of_length_le (by rw [Slot.flen]; simp; omega), List.nil_append]
 ·rw [List.drop_of_length_le h, List.drop_of_length_le (by rw [Slot.flen]; omega)]; rfl
theorem zdd {sl v : List Slot} {k : Nat} (T : List AV) (h : k + v.length ≤ sl.length) : setR (flat Slot.enc sl ++ T) (k * 10) (flat Slot.enc v) = flat Slot.enc (ovr sl k v) ++ T := by
 have hl := Slot.flen sl
 have hv := Slot.flen v
 simp only [setR, ovr, sl_app, ← ziv, ← zgx]
 rw [hv, ← Nat.add_mul, List.take_append_of_le_length (by omega), List.drop_append_of_le_length (by omega)]
 simp only [List.append_assoc]
theorem one_slot (x : Slot) : flat Slot.enc [x] = x.enc := by simp [flat]
theorem ovr_one {sl : List Slot} {k : Nat} {x : Slot} (h : k < sl.length) : ovr sl k [x] = sl.set k x := by
 simp only [ovr, List.length_singleton, List.append_assoc, List.singleton_append]
 rw [List.set_eq_take_append_cons_drop, if_pos h]
theorem s14a {c0 c1 c2 c3 c4 c5 c6 c7 c8 c9 c10 c11 c12 c13 : AV} {X v : List AV} (k : Nat) : setR (c0 :: c1 :: c2 :: c3 :: c4 :: c5 :: c6 :: c7 :: c8 :: c9 :: c10 :: c11 :: c12 :: c13 :: X) (14 + k) v =
  c0 :: c1 :: c2 :: c3 :: c4 :: c5 :: c6 :: c7 :: c8 :: c9 :: c10 :: c11 :: c12 :: c13 :: setR X k v := by
 rw [show 14 + k = k + 1 + 1 + 1 + 1 + 1 + 1 + 1 + 1 + 1 + 1 + 1 + 1 + 1 + 1 from by omega]
 simp only [zau]
theorem s14 {c0 c1 c2 c3 c4 c5 c6 c7 c8 c9 c10 c11 c12 c13 : AV} {X v : List AV} (j k : Nat) : setR (c0 :: c1 :: c2 :: c3 :: c4 :: c5 :: c6 :: c7 :: c8 :: c9 :: c10 :: c11 :: c12 :: c13 :: X) (14 + j + k) v =
  c0 :: c1 :: c2 :: c3 :: c4 :: c5 :: c6 :: c7 :: c8 :: c9 :: c10 :: c11 :: c12 :: c13 :: setR X (j + k) v := by
 rw [Nat.add_assoc, s14a]
theorem t_zBlank (tag : Nat) : callω L T 177 tag [] [] = some (.agg blk.enc, []) := by
 rw [za5 (show T 177 = some (.code a177) from rfl) rfl rfl]
 (refine gox ?_)
 (refine finx ?_; try with_reducible rfl)
 try rfl
theorem z40 : (flat Slot.enc (List.replicate 40 Slot.none)).length = 400 := by rw [Slot.flen]; simp
def bl (n k : Nat) : List Slot := blks k ++ List.replicate (n - k) Slot.none
theorem bl_all (n : Nat) : bl n n = blks n := by simp [bl]
theorem bl_len {n k : Nat} (h : k ≤ n) : (bl n k).length = n := by simp [bl, blks]; omega
theorem bl_set {n k : Nat} (h : k < n) : (bl n k).set k blk = bl n (k + 1) := by
 apply List.ext_getElem
 ·simp [bl, blks]; omega
 ·intro i h1 h2
  simp only [bl, blks, List.getElem_set, List.getElem_append, List.getElem_replicate, List.length_replicate]
  by_cases e : k = i
  ·subst e; simp
  ·rw [if_neg e]
   by_cases q : i < k
   ·rw [dif_pos q, dif_pos (by omega)]
   ·rw [dif_neg q, dif_neg (by omega)]
theorem zi4 (tag : Nat) : callω L T 123 tag [] [] = some (.agg (flat Slot.enc (blks 40)), []) := by
 rw [za5 (show T 123 = some (.code a123) from rfl) rfl rfl]
 have z := Slot.zero 40
 have lb := Slot.len blk
 (have fA := @z; refine gox ?_; clear fA)
 refine zf7 (fun k => ⟨[(0, .ref 0 (tag, 1) 0), (1, .ref 1 (tag, 1 + 1) 0), (3, .int .i64 (k : Nat))], [(0, ⟨(tag, 1), flat Slot.enc (List.replicate 40 Slot.none)⟩), (1, ⟨(tag, 1 + 1), flat Slot.enc (bl 40 k)⟩)], 1 + 1 + 1, tag⟩) 40 _ ?_ ?_ 0 (by omega)
 ·intro k hk
  have hk' : (k : Int) < 40 := by omega
  have hw : IntKind.i64.wrap ((k : Int) + 1) = ((k + 1 : Nat) : Int) := zah hk (by omega)
  have hl : (flat Slot.enc (bl 40 k)).length = 400 := by rw [Slot.flen, bl_len (by omega)]
  have hp : setR (flat Slot.enc (bl 40 k)) (k * 10) blk.enc = flat Slot.enc (bl 40 (k + 1)) := by rw [Slot.pute (by rw [bl_len (by omega)]; omega), bl_set hk]
  (have fA := aI @hw (aI @hl (aI @lb @hp)); have c1 := fun x1 => t_zBlank x1; refine gox ?_; clear fA c1)
  refine zaa ?_ rfl rfl
  rw [hw]
 ·have h1 : (flat Slot.enc (bl 40 40)).length = 400 := by rw [Slot.flen, bl_len (by omega)]
  have h2 : (flat Slot.enc (List.replicate 40 Slot.none)).length = 400 := z40
  have t1 : (flat Slot.enc (bl 40 40)).take 400 = flat Slot.enc (bl 40 40) := List.take_of_length_le (by omega)
  have s1 : setR (flat Slot.enc (List.replicate 40 Slot.none)) 0 (flat Slot.enc (bl 40 40)) = flat Slot.enc (bl 40 40) := zbn (by omega)
  have hp := Slot.pl (bl 40 40)
  (have fA := aI @h1 (aI @h2 (aI @t1 @s1)); refine gox ?_; clear fA)
  (have fA := aI @h1 (aI @t1 @hp); refine finx ?_; clear fA; try with_reducible rfl)
  rw [bl_all]
end
section
attribute [local simp] Ev.flen Ev.rd Ev.enc Slot.flen Slot.rd Slot.pute Slot.zero Slot.enc
theorem slF {sl : List Slot} (h : sl.length = 1000) : (flat Slot.enc sl).length = 10000 ∧ (∀ T : List AV, (flat Slot.enc sl ++ T)[10000]? = T[0]?) ∧ (∀ T : List AV, (flat Slot.enc sl ++ T)[10001]? = T[1]?) ∧ (∀ T : List AV, (flat Slot.enc sl ++ T)[10002]? = T[2]?) ∧
  (∀ T : List AV, (flat Slot.enc sl ++ T)[10003]? = T[3]?) ∧ (∀ T v : List AV, setR (flat Slot.enc sl ++ T) 10000 v = flat Slot.enc sl ++ setR T 0 v) ∧ (∀ T v : List AV, setR (flat Slot.enc sl ++ T) 10001 v = flat Slot.enc sl ++ setR T 1 v) ∧
  (∀ T v : List AV, setR (flat Slot.enc sl ++ T) 10002 v = flat Slot.enc sl ++ setR T 2 v) ∧ (∀ T v : List AV, setR (flat Slot.enc sl ++ T) 10003 v = flat Slot.enc sl ++ setR T 3 v) ∧ (∀ T : List AV, (flat Slot.enc sl ++ T).drop 10003 = T.drop 3) ∧
  (∀ a0 a1 a2 a3 a4 a5 a6 a7 a8 a9 : AV, (flat Slot.enc sl ++ [a0, a1, a2, a3, a4, a5, a6, a7, a8, a9]).take 10010 = flat Slot.enc sl ++ [a0, a1, a2, a3, a4, a5, a6, a7, a8, a9]) := by
 have hF := sl_len h
 refine ⟨hF, fun T => zai 0 (by omega), fun T => zai 1 (by omega), fun T => zai 2 (by omega), fun T => zai 3 (by omega), fun T v => zae 0 (by omega), fun T v => zae 1 (by omega), fun T v => zae 2 (by omega), fun T v => zae 3 (by omega), fun T => ?_, fun a0 a1 a2 a3 a4 a5 a6 a7 a8 a9 => ?_⟩
 ·rw [show 10003 = (flat Slot.enc sl).length + 3 from by omega, List.drop_append]; simp
 ·exact List.take_of_length_le (by simp [hF])
theorem slR {sl sl' : List Slot} (h : sl.length = 1000) (h' : sl'.length = 1000) (a0 a1 a2 a3 a4 a5 a6 a7 a8 a9 b0 b1 b2 b3 b4 b5 b6 b7 b8 b9 : AV) :
  setR (flat Slot.enc sl ++ [a0, a1, a2, a3, a4, a5, a6, a7, a8, a9]) 0 (flat Slot.enc sl' ++ [b0, b1, b2, b3, b4, b5, b6, b7, b8, b9]) = flat Slot.enc sl' ++ [b0, b1, b2, b3, b4, b5, b6, b7, b8, b9] :=
 zbn (by have h1 := sl_len h; have h2 := sl_len h'; simp [h1, h2])
structure Scr.Ok (s : Scr) : Prop where
 sl : s.sl.length = 1000
 r0 : 0 ≤ s.row
 r1 : s.row ≤ 24
 c0 : 0 ≤ s.col
 c1 : s.col ≤ 39
 q0 : 0 ≤ s.row0
 q1 : s.row0 ≤ 24
 d0 : 0 ≤ s.col0
 d1 : s.col0 ≤ 39
def sReset (s : Scr) : Scr := { s with fg := 7, bg := 0, flash := false, inv := false, under := false, conc := false, tall := false, wide := false, waits := false }
def sHome (s : Scr) : Scr := sReset { s with row := 1, col := 0 }
def sDown (s : Scr) : Scr := if s.row = 0 then { s with row := s.row0, col := s.col0 } else if s.row < 24 then { s with row := s.row + 1 } else
 if s.roll = true then { s with sl := ovr (ovr s.sl 40 (s.sl.drop 80)) 960 (blks 40) } else { s with row := 1 }
def sUp (s : Scr) : Scr := if s.row = 0 then s else if s.row > 1 then { s with row := s.row - 1 } else
 if s.roll = true then { s with sl := ovr (ovr s.sl 80 ((s.sl.drop 40).take 920)) 40 (blks 40) } else { s with row := 24 }
def sBack (s : Scr) : Scr := if s.col > 0 then { s with col := s.col - 1 } else if s.row > 0 then { sUp s with col := 39 } else s
def sOn (s : Scr) : Scr := if s.col < 39 then { s with col := s.col + 1 } else if s.row > 0 then { sDown s with col := 0 } else s
theorem Scr.Ok.reset {s : Scr} (h : s.Ok) : (sReset s).Ok := ⟨h.sl, h.r0, h.r1, h.c0, h.c1, h.q0, h.q1, h.d0, h.d1⟩
theorem Scr.Ok.home {s : Scr} (h : s.Ok) : (sHome s).Ok := ⟨h.sl, by simp [sHome, sReset], by simp [sHome, sReset], by simp [sHome, sReset], by simp [sHome, sReset], h.q0, h.q1, h.d0, h.d1⟩
theorem Scr.Ok.down {s : Scr} (h : s.Ok) : (sDown s).Ok := by
 obtain ⟨a, b, c, d, e, f, g, i, j⟩ := h
 unfold sDown
 by_cases q : s.row = 0
 ·rw [if_pos q]; exact ⟨a, f, g, i, j, f, g, i, j⟩
 rw [if_neg q]
 by_cases q2 : s.row < 24
 ·rw [if_pos q2]; exact ⟨a, by simp only; omega, by simp only; omega, d, e, f, g, i, j⟩
 rw [if_neg q2]
 by_cases q3 : s.roll = true
 ·rw [if_pos q3]
  have h1 : (ovr s.sl 40 (s.sl.drop 80)).length = 1000 := by rw [zbe (by simp; omega), a]
  exact ⟨by simp only; rw [zbe (by rw [zak]; omega), h1], b, c, d, e, f, g, i, j⟩
 rw [if_neg q3]
 exact ⟨a, by simp, by simp, d, e, f, g, i, j⟩
theorem Scr.Ok.up {s : Scr} (h : s.Ok) : (sUp s).Ok := by
 obtain ⟨a, b, c, d, e, f, g, i, j⟩ := h
 unfold sUp
 by_cases q : s.row = 0
 ·rw [if_pos q]; exact ⟨a, b, c, d, e, f, g, i, j⟩
 rw [if_neg q]
 by_cases q2 : s.row > 1
 ·rw [if_pos q2]; exact ⟨a, by simp only; omega, by simp only; omega, d, e, f, g, i, j⟩
 rw [if_neg q2]
 by_cases q3 : s.roll = true
 ·rw [if_pos q3]
  have h1 : (ovr s.sl 80 ((s.sl.drop 40).take 920)).length = 1000 := by rw [zbe (by simp; omega), a]
  exact ⟨by simp only; rw [zbe (by rw [zak]; omega), h1], b, c, d, e, f, g, i, j⟩
 rw [if_neg q3]
 exact ⟨a, by simp, by simp, d, e, f, g, i, j⟩
theorem Scr.Ok.back {s : Scr} (h : s.Ok) : (sBack s).Ok := by
 have hu := h.up
 obtain ⟨a, b, c, d, e, f, g, i, j⟩ := h
 unfold sBack
 by_cases q : s.col > 0
 ·rw [if_pos q]; exact ⟨a, b, c, by simp only; omega, by simp only; omega, f, g, i, j⟩
 rw [if_neg q]
 by_cases q2 : s.row > 0
 ·rw [if_pos q2]; exact ⟨hu.sl, hu.r0, hu.r1, by simp, by simp, hu.q0, hu.q1, hu.d0, hu.d1⟩
 rw [if_neg q2]
 exact ⟨a, b, c, d, e, f, g, i, j⟩
theorem Scr.Ok.on {s : Scr} (h : s.Ok) : (sOn s).Ok := by
 have hu := h.down
 obtain ⟨a, b, c, d, e, f, g, i, j⟩ := h
 unfold sOn
 by_cases q : s.col < 39
 ·rw [if_pos q]; exact ⟨a, b, c, by simp only; omega, by simp only; omega, f, g, i, j⟩
 rw [if_neg q]
 by_cases q2 : s.row > 0
 ·rw [if_pos q2]; exact ⟨hu.sl, hu.r0, hu.r1, by simp, by simp, hu.q0, hu.q1, hu.d0, hu.d1⟩
 rw [if_neg q2]
 exact ⟨a, b, c, d, e, f, g, i, j⟩
theorem zm6 (tag : Nat) (s : Scr) (hs : s.Ok) : callω L T 238 tag [.ref 0 (tag, 0) 0] [some s.enc] = some (.tup [], [some (sReset s).enc]) := by
 obtain ⟨row, col, fg, bg, flash, inv, under, conc, tall, wide, cursor, roll, masks, bells, sl, waits, row0, col0, wr⟩ := s
 obtain ⟨hsl, hr0, hr1, hc0, hc1, hq0, hq1, hd0, hd1⟩ := hs
 simp only at hsl hr0 hr1 hc0 hc1 hq0 hq1 hd0 hd1
 have hF := slF hsl
 have hP := Slot.pl sl
 simp only [Scr.enc]
 rw [za5 (show T 238 = some (.code a238) from rfl) rfl rfl]
 (have fA := aI @hF @hP; refine gox ?_; clear fA)
 (have fA := aI @hF @hP; refine finx ?_; clear fA; try with_reducible rfl)
 all_goals first | rfl | (simp []; done)
theorem t_home (tag : Nat) (s : Scr) (hs : s.Ok) : callω L T 188 tag [.ref 0 (tag, 0) 0] [some s.enc] = some (.tup [], [some (sHome s).enc]) := by
 obtain ⟨row, col, fg, bg, flash, inv, under, conc, tall, wide, cursor, roll, masks, bells, sl, waits, row0, col0, wr⟩ := s
 obtain ⟨hsl, hr0, hr1, hc0, hc1, hq0, hq1, hd0, hd1⟩ := hs
 simp only at hsl hr0 hr1 hc0 hc1 hq0 hq1 hd0 hd1
 have hF := slF hsl
 have hP := Slot.pl sl
 simp only [Scr.enc]
 rw [za5 (show T 188 = some (.code a188) from rfl) rfl rfl]
 have cR := fun tag => zm6 tag ⟨1, 0, fg, bg, flash, inv, under, conc, tall, wide, cursor, roll, masks, bells, sl, waits, row0, col0, wr⟩ ⟨hsl, by simp, by simp, by simp, by simp, hq0, hq1, hd0, hd1⟩
 simp only [Scr.enc, sReset] at cR
 have rT := slR hsl hsl
 (have fA := aI @hF (aI @hP @rT); have c1 := fun x1 => cR x1; refine gox ?_; clear fA c1)
 (have fA := aI @hF (aI @hP @rT); refine finx ?_; clear fA; try with_reducible rfl)
 all_goals first | rfl | (simp []; done)
theorem t_Rolls (tag : Nat) (s : Scr) (hs : s.Ok) (b : Bool) : callω L T 139 tag [.ref 0 (tag, 0) 0, .bool b] [some s.enc, none] = some (.tup [], [some ({ s with roll := b }).enc, none]) := by
 obtain ⟨row, col, fg, bg, flash, inv, under, conc, tall, wide, cursor, roll, masks, bells, sl, waits, row0, col0, wr⟩ := s
 obtain ⟨hsl, hr0, hr1, hc0, hc1, hq0, hq1, hd0, hd1⟩ := hs
 simp only at hsl hr0 hr1 hc0 hc1 hq0 hq1 hd0 hd1
 have hF := slF hsl
 have hP := Slot.pl sl
 simp only [Scr.enc]
 rw [za5 (show T 139 = some (.code a139) from rfl) rfl rfl]
 (have fA := aI @hF @hP; refine gox ?_; clear fA)
 (have fA := aI @hF @hP; refine finx ?_; clear fA; try with_reducible rfl)
 all_goals first | rfl | (simp []; done)
theorem zm5 (tag : Nat) (s : Scr) (hs : s.Ok) (a b : Bool) : callω L T 240 tag [.ref 0 (tag, 0) 0, .bool a, .bool b] [some s.enc, none, none] = some (.tup [], [some ({ s with tall := a, wide := b }).enc, none, none]) := by
 obtain ⟨row, col, fg, bg, flash, inv, under, conc, tall, wide, cursor, roll, masks, bells, sl, waits, row0, col0, wr⟩ := s
 obtain ⟨hsl, hr0, hr1, hc0, hc1, hq0, hq1, hd0, hd1⟩ := hs
 simp only at hsl hr0 hr1 hc0 hc1 hq0 hq1 hd0 hd1
 have hF := slF hsl
 have hP := Slot.pl sl
 simp only [Scr.enc]
 rw [za5 (show T 240 = some (.code a240) from rfl) rfl rfl]
 (have fA := aI @hF @hP; refine gox ?_; clear fA)
 (have fA := aI @hF @hP; refine finx ?_; clear fA; try with_reducible rfl)
 all_goals first | rfl | (simp []; done)
theorem zh4 (tag : Nat) (s : Scr) (hs : s.sl.length = 1000 ∧ 0 ≤ s.row ∧ s.row ≤ 24) : callω L T 232 tag [.ref 0 (tag, 0) 0] [some s.enc] = some (.tup [], [some (sDown s).enc]) := by
 obtain ⟨row, col, fg, bg, flash, inv, under, conc, tall, wide, cursor, roll, masks, bells, sl, waits, row0, col0, wr⟩ := s
 obtain ⟨hsl, hr0, hr1⟩ := hs
 simp only at hsl hr0 hr1
 have hF := slF hsl
 have hP := Slot.pl sl
 simp only [Scr.enc]
 rw [za5 (show T 232 = some (.code a232) from rfl) rfl rfl]
 unfold sDown
 simp only
 by_cases q : row = 0
 ·rw [if_pos q]
  (have fA := aI @hF @hP; refine gox ?_; clear fA)
  (have fA := aI @hF @hP; refine finx ?_; clear fA; try with_reducible rfl)
  all_goals first | rfl | (simp []; done)
 rw [if_neg q]
 by_cases q2 : row < 24
 ·rw [if_pos q2]
  have w : IntKind.i64.wrap (row + 1) = row + 1 := w_i64 (by omega) (by omega)
  (have fA := aI @hF @hP; refine gox ?_; clear fA)
  (have fA := aI @hF @hP; refine finx ?_; clear fA; try with_reducible rfl)
  all_goals first | rfl | (simp [w]; done)
 rw [if_neg q2]
 cases roll with
 | false =>
  rw [if_neg (by decide)]
  (have fA := aI @hF @hP; refine gox ?_; clear fA)
  (have fA := aI @hF @hP; refine finx ?_; clear fA; try with_reducible rfl)
  all_goals first | rfl | (simp []; done)
 | true =>
  rw [if_pos rfl]
  have h1 : (ovr sl 40 (sl.drop 80)).length = 1000 := by rw [zbe (by simp; omega), hsl]
  have h2 : (ovr (ovr sl 40 (sl.drop 80)) 960 (blks 40)).length = 1000 := by rw [zbe (by rw [zak]; omega), h1]
  have hd : (flat Slot.enc (sl.drop 80)).length = 9200 := by rw [Slot.flen]; simp; omega
  have e1 : ∀ T : List AV, List.take 9200 (List.drop 800 (flat Slot.enc sl ++ T)) = flat Slot.enc (sl.drop 80) := fun T => by
   have hl := Slot.flen sl
   have := zgx (sl := sl) 80
   rw [List.drop_append_of_le_length (by omega), this, List.take_append_of_le_length (by omega), List.take_of_length_le (by omega)]
  have e2 : List.take 9200 (flat Slot.enc (sl.drop 80)) = flat Slot.enc (sl.drop 80) := List.take_of_length_le (by omega)
  have e3 : ∀ T : List AV, setR (flat Slot.enc sl ++ T) 400 (flat Slot.enc (sl.drop 80)) = flat Slot.enc (ovr sl 40 (sl.drop 80)) ++ T := fun T => zdd (k := 40) T (by simp; omega)
  have e4 : ∀ T : List AV, setR (flat Slot.enc (ovr sl 40 (sl.drop 80)) ++ T) 9600 (flat Slot.enc (blks 40)) = flat Slot.enc (ovr (ovr sl 40 (sl.drop 80)) 960 (blks 40)) ++ T := fun T => zdd (k := 960) T (by rw [zak]; omega)
  have hb1 := zgd 40
  have hF1 := slF h1
  have hF2 := slF h2
  have hP1 := Slot.pl (ovr (ovr sl 40 (sl.drop 80)) 960 (blks 40))
  (have fA := aI @hF (aI @hP (aI @hd (aI @e1 (aI @e2 (aI @e3 (aI @e4 (aI @hb1 (aI @hF1 (aI @hF2 @hP1))))))))); have c1 := fun x1 => zi4 x1; refine gox ?_; clear fA c1)
  (have fA := aI @hF (aI @hP (aI @hd (aI @e1 (aI @e2 (aI @e3 (aI @e4 (aI @hb1 (aI @hF1 (aI @hF2 @hP1))))))))); refine finx ?_; clear fA; try with_reducible rfl)
  all_goals first | rfl | (simp only [nfs, Int.reduceToNat, Nat.reduceMul, Nat.reduceAdd, Nat.reduceSub, Nat.min_self, e1, e2, e3, e4]; done) | (simp only [nfs, Int.reduceToNat, Nat.reduceMul, Nat.reduceAdd, Nat.reduceSub, Nat.min_self, e1, e2, e3, e4]; rfl) | (simp []; done)
theorem t_down (tag : Nat) (s : Scr) (hs : s.Ok) : callω L T 232 tag [.ref 0 (tag, 0) 0] [some s.enc] = some (.tup [], [some (sDown s).enc]) := zh4 tag s ⟨hs.sl, hs.r0, hs.r1⟩
theorem t_up (tag : Nat) (s : Scr) (hs : s.Ok) : callω L T 235 tag [.ref 0 (tag, 0) 0] [some s.enc] = some (.tup [], [some (sUp s).enc]) := by
 obtain ⟨row, col, fg, bg, flash, inv, under, conc, tall, wide, cursor, roll, masks, bells, sl, waits, row0, col0, wr⟩ := s
 obtain ⟨hsl, hr0, hr1, hc0, hc1, hq0, hq1, hd0, hd1⟩ := hs
 simp only at hsl hr0 hr1 hc0 hc1 hq0 hq1 hd0 hd1
 have hF := slF hsl
 have hP := Slot.pl sl
 simp only [Scr.enc]
 rw [za5 (show T 235 = some (.code a235) from rfl) rfl rfl]
 unfold sUp
 simp only
 by_cases q : row = 0
 ·rw [if_pos q]
  (have fA := aI @hF @hP; refine gox ?_; clear fA)
  (have fA := aI @hF @hP; refine finx ?_; clear fA; try with_reducible rfl)
  all_goals first | rfl | (simp []; done)
 rw [if_neg q]
 by_cases q2 : row > 1
 ·rw [if_pos q2]
  have w : IntKind.i64.wrap (row - 1) = row - 1 := w_i64 (by omega) (by omega)
  (have fA := aI @hF @hP; refine gox ?_; clear fA)
  (have fA := aI @hF @hP; refine finx ?_; clear fA; try with_reducible rfl)
  all_goals first | rfl | (simp [w]; done)
 rw [if_neg q2]
 cases roll with
 | false =>
  rw [if_neg (by decide)]
  (have fA := aI @hF @hP; refine gox ?_; clear fA)
  (have fA := aI @hF @hP; refine finx ?_; clear fA; try with_reducible rfl)
  all_goals first | rfl | (simp []; done)
 | true =>
  rw [if_pos rfl]
  have h1 : (ovr sl 80 ((sl.drop 40).take 920)).length = 1000 := by rw [zbe (by simp; omega), hsl]
  have h2 : (ovr (ovr sl 80 ((sl.drop 40).take 920)) 40 (blks 40)).length = 1000 := by rw [zbe (by rw [zak]; omega), h1]
  have hd : (flat Slot.enc ((sl.drop 40).take 920)).length = 9200 := by rw [Slot.flen]; simp; omega
  have e1 : ∀ T : List AV, List.take 9200 (List.drop 400 (flat Slot.enc sl ++ T)) = flat Slot.enc ((sl.drop 40).take 920) := fun T => by
   have hl := Slot.flen sl
   have h4 := zgx (sl := sl) 40
   have h5 := ziv (sl := sl.drop 40) 920
   have h6 : (flat Slot.enc (sl.drop 40)).length = 9600 := by rw [Slot.flen]; simp; omega
   rw [List.drop_append_of_le_length (by omega), h4, List.take_append_of_le_length (by omega), h5]
  have e2 : List.take 9200 (flat Slot.enc ((sl.drop 40).take 920)) = flat Slot.enc ((sl.drop 40).take 920) := List.take_of_length_le (by omega)
  have e3 : ∀ T : List AV, setR (flat Slot.enc sl ++ T) 800 (flat Slot.enc ((sl.drop 40).take 920)) = flat Slot.enc (ovr sl 80 ((sl.drop 40).take 920)) ++ T := fun T => zdd (k := 80) T (by simp; omega)
  have e4 : ∀ T : List AV, setR (flat Slot.enc (ovr sl 80 ((sl.drop 40).take 920)) ++ T) 400 (flat Slot.enc (blks 40)) = flat Slot.enc (ovr (ovr sl 80 ((sl.drop 40).take 920)) 40 (blks 40)) ++ T := fun T => zdd (k := 40) T (by rw [zak]; omega)
  have hb1 := zgd 40
  have hF1 := slF h1
  have hF2 := slF h2
  have hP1 := Slot.pl (ovr (ovr sl 80 ((sl.drop 40).take 920)) 40 (blks 40))
  (have fA := aI @hF (aI @hP (aI @hd (aI @e1 (aI @e2 (aI @e3 (aI @e4 (aI @hb1 (aI @hF1 (aI @hF2 @hP1))))))))); have c1 := fun x1 => zi4 x1; refine gox ?_; clear fA c1)
  (have fA := aI @hF (aI @hP (aI @hd (aI @e1 (aI @e2 (aI @e3 (aI @e4 (aI @hb1 (aI @hF1 (aI @hF2 @hP1))))))))); refine finx ?_; clear fA; try with_reducible rfl)
  all_goals first | rfl | (simp only [nfs, Int.reduceToNat, Nat.reduceMul, Nat.reduceAdd, Nat.reduceSub, Nat.min_self, e1, e2, e3, e4]; done) | (simp only [nfs, Int.reduceToNat, Nat.reduceMul, Nat.reduceAdd, Nat.reduceSub, Nat.min_self, e1, e2, e3, e4]; rfl) | (simp []; done)
end
section
attribute [local simp] Ev.flen Ev.rd Ev.enc Slot.flen Slot.rd Slot.pute Slot.zero Slot.enc
theorem t_back (tag : Nat) (s : Scr) (hs : s.Ok) : callω L T 233 tag [.ref 0 (tag, 0) 0] [some s.enc] = some (.tup [], [some (sBack s).enc]) := by
 obtain ⟨row, col, fg, bg, flash, inv, under, conc, tall, wide, cursor, roll, masks, bells, sl, waits, row0, col0, wr⟩ := s
 obtain ⟨hsl, hr0, hr1, hc0, hc1, hq0, hq1, hd0, hd1⟩ := hs
 simp only at hsl hr0 hr1 hc0 hc1 hq0 hq1 hd0 hd1
 have hF := slF hsl
 have hP := Slot.pl sl
 simp only [Scr.enc]
 rw [za5 (show T 233 = some (.code a233) from rfl) rfl rfl]
 unfold sBack
 simp only
 by_cases q : col > 0
 ·rw [if_pos q]
  have w : IntKind.i64.wrap (col - 1) = col - 1 := w_i64 (by omega) (by omega)
  (have fA := aI @hF @hP; refine gox ?_; clear fA)
  (have fA := aI @hF @hP; refine finx ?_; clear fA; try with_reducible rfl)
  all_goals first | rfl | (simp [w]; done)
 rw [if_neg q]
 by_cases q2 : row > 0
 ·rw [if_pos q2]
  have cR := fun tag => t_up tag ⟨row, col, fg, bg, flash, inv, under, conc, tall, wide, cursor, roll, masks, bells, sl, waits, row0, col0, wr⟩ ⟨hsl, hr0, hr1, hc0, hc1, hq0, hq1, hd0, hd1⟩
  have hk := Scr.Ok.up (s := ⟨row, col, fg, bg, flash, inv, under, conc, tall, wide, cursor, roll, masks, bells, sl, waits, row0, col0, wr⟩) ⟨hsl, hr0, hr1, hc0, hc1, hq0, hq1, hd0, hd1⟩
  generalize sUp ⟨row, col, fg, bg, flash, inv, under, conc, tall, wide, cursor, roll, masks, bells, sl, waits, row0, col0, wr⟩ = s2 at cR hk ⊢
  obtain ⟨row2, col2, fg2, bg2, flash2, inv2, under2, conc2, tall2, wide2, cursor2, roll2, masks2, bells2, sl2, waits2, row02, col02, wr2⟩ := s2
  have hsl2 := hk.sl
  simp only at hsl2
  have hF2 := slF hsl2
  have hP2 := Slot.pl sl2
  have rT := slR hsl hsl2
  simp only [Scr.enc] at cR ⊢
  (have fA := aI @hF (aI @hP (aI @hF2 (aI @hP2 @rT))); have c1 := fun x1 => cR x1; refine gox ?_; clear fA c1)
  (have fA := aI @hF (aI @hP (aI @hF2 (aI @hP2 @rT))); refine finx ?_; clear fA; try with_reducible rfl)
  all_goals first | rfl | (simp []; done)
 rw [if_neg q2]
 (have fA := aI @hF @hP; refine gox ?_; clear fA)
 (have fA := aI @hF @hP; refine finx ?_; clear fA; try with_reducible rfl)
 all_goals first | rfl | (simp []; done)
theorem t_on (tag : Nat) (s : Scr) (hs : s.Ok) : callω L T 234 tag [.ref 0 (tag, 0) 0] [some s.enc] = some (.tup [], [some (sOn s).enc]) := by
 obtain ⟨row, col, fg, bg, flash, inv, under, conc, tall, wide, cursor, roll, masks, bells, sl, waits, row0, col0, wr⟩ := s
 obtain ⟨hsl, hr0, hr1, hc0, hc1, hq0, hq1, hd0, hd1⟩ := hs
 simp only at hsl hr0 hr1 hc0 hc1 hq0 hq1 hd0 hd1
 have hF := slF hsl
 have hP := Slot.pl sl
 simp only [Scr.enc]
 rw [za5 (show T 234 = some (.code a234) from rfl) rfl rfl]
 unfold sOn
 simp only
 by_cases q : col < 39
 ·rw [if_pos q]
  have w : IntKind.i64.wrap (col + 1) = col + 1 := w_i64 (by omega) (by omega)
  (have fA := aI @hF @hP; refine gox ?_; clear fA)
  (have fA := aI @hF @hP; refine finx ?_; clear fA; try with_reducible rfl)
  all_goals first | rfl | (simp [w]; done)
 rw [if_neg q]
 by_cases q2 : row > 0
 ·rw [if_pos q2]
  have cR := fun tag => t_down tag ⟨row, col, fg, bg, flash, inv, under, conc, tall, wide, cursor, roll, masks, bells, sl, waits, row0, col0, wr⟩ ⟨hsl, hr0, hr1, hc0, hc1, hq0, hq1, hd0, hd1⟩
  have hk := Scr.Ok.down (s := ⟨row, col, fg, bg, flash, inv, under, conc, tall, wide, cursor, roll, masks, bells, sl, waits, row0, col0, wr⟩) ⟨hsl, hr0, hr1, hc0, hc1, hq0, hq1, hd0, hd1⟩
  generalize sDown ⟨row, col, fg, bg, flash, inv, under, conc, tall, wide, cursor, roll, masks, bells, sl, waits, row0, col0, wr⟩ = s2 at cR hk ⊢
  obtain ⟨row2, col2, fg2, bg2, flash2, inv2, under2, conc2, tall2, wide2, cursor2, roll2, masks2, bells2, sl2, waits2, row02, col02, wr2⟩ := s2
  have hsl2 := hk.sl
  simp only at hsl2
  have hF2 := slF hsl2
  have hP2 := Slot.pl sl2
  have rT := slR hsl hsl2
  simp only [Scr.enc] at cR ⊢
  (have fA := aI @hF (aI @hP (aI @hF2 (aI @hP2 @rT))); have c1 := fun x1 => cR x1; refine gox ?_; clear fA c1)
  (have fA := aI @hF (aI @hP (aI @hF2 (aI @hP2 @rT))); refine finx ?_; clear fA; try with_reducible rfl)
  all_goals first | rfl | (simp []; done)
 rw [if_neg q2]
 (have fA := aI @hF @hP; refine gox ?_; clear fA)
 (have fA := aI @hF @hP; refine finx ?_; clear fA; try with_reducible rfl)
 all_goals first | rfl | (simp []; done)
end
section
attribute [local simp] Ev.flen Ev.rd Ev.enc Slot.flen Slot.rd Slot.pute Slot.zero Slot.enc
theorem zls {sl v : List Slot} {k i : Nat} (h : k + v.length ≤ sl.length) : (ovr sl k v)[i]? = if i < k then sl[i]? else if i < k + v.length then v[i - k]? else sl[i]? := by
 simp only [ovr, List.append_assoc]
 by_cases h1 : i < k
 ·rw [if_pos h1, List.getElem?_append_left (by simp; omega), List.getElem?_take, if_pos h1]
 ·rw [if_neg h1, List.getElem?_append_right (by simp; omega)]
  have e : (sl.take k).length = k := by simp; omega
  rw [e]
  by_cases h2 : i < k + v.length
  ·rw [if_pos h2, List.getElem?_append_left (by omega)]
  ·rw [if_neg h2, List.getElem?_append_right (by omega), List.getElem?_drop]
   congr 1; omega
theorem zl9 (n i : Nat) : (blks n)[i]? = if i < n then some blk else none := by simp [blks, List.getElem?_replicate]
theorem zm7 {sl : List Slot} {p a b : Nat} (h : p + a + b ≤ sl.length) : ovr (ovr sl p (blks a)) (p + a) (blks b) = ovr sl p (blks (a + b)) := by
 have h1 : p + (blks a).length ≤ sl.length := by rw [zak]; omega
 have h2 : p + a + (blks b).length ≤ (ovr sl p (blks a)).length := by rw [zbe h1, zak]; omega
 have h3 : p + (blks (a + b)).length ≤ sl.length := by rw [zak]; omega
 apply List.ext_getElem?
 intro i
 rw [zls h2, zls h1, zls h3]
 simp only [zak, zl9]
 by_cases q1 : i < p
 ·rw [if_pos (by omega), if_pos q1, if_pos q1]
 by_cases q2 : i < p + a
 ·rw [if_pos q2, if_neg q1, if_pos q2, if_neg q1, if_pos (by omega), if_pos (by omega), if_pos (by omega)]
 by_cases q3 : i < p + a + b
 ·rw [if_neg q2, if_pos q3, if_neg q1, if_pos (by omega), if_pos (by omega), if_pos (by omega)]
 ·rw [if_neg q2, if_neg q3, if_neg q1, if_neg q2, if_neg q1, if_neg (by omega)]
theorem zle (sl : List Slot) (p : Nat) : ovr sl p (blks 0) = sl := by simp [ovr, blks]
def sWipe (s : Scr) (r f : Nat) (n : Nat) : Scr := { s with sl := ovr s.sl (r * 40 + f) (blks n) }
def sWipeR (s : Scr) (f n : Nat) : Scr := { s with sl := ovr s.sl (f * 40) (blks (n * 40)) }
theorem Scr.Ok.wipe {s : Scr} (h : s.Ok) {r f n : Nat} (hr : r ≤ 24) (hf : f + n ≤ 40) : (sWipe s r f n).Ok := by
 have a := h.sl
 exact ⟨by simp only [sWipe]; rw [zbe (by rw [zak]; omega), a], h.r0, h.r1, h.c0, h.c1, h.q0, h.q1, h.d0, h.d1⟩
theorem Scr.Ok.wipeR {s : Scr} (h : s.Ok) {f n : Nat} (hf : f + n ≤ 25) : (sWipeR s f n).Ok := by
 have a := h.sl
 exact ⟨by simp only [sWipeR]; rw [zbe (by rw [zak]; omega), a], h.r0, h.r1, h.c0, h.c1, h.q0, h.q1, h.d0, h.d1⟩
theorem t_wipe (tag : Nat) (s : Scr) (hs : s.Ok) (r f n : Nat) (to : Int) (hr : r ≤ 24) (hf : f + n ≤ 40) (ht : n = (to + 1 - f).toNat) (ht2 : -2 ≤ to) : callω L T 237 tag [.ref 0 (tag, 0) 0, .int .i64 r, .int .i64 f, .int .i64 to] [some s.enc, none, none, none] = some (.tup [], [some (sWipe s r f n).enc, none, none, none]) := by
 obtain ⟨row, col, fg, bg, flash, inv, under, conc, tall, wide, cursor, roll, masks, bells, sl, waits, row0, col0, wr⟩ := s
 obtain ⟨hsl, hr0, hr1, hc0, hc1, hq0, hq1, hd0, hd1⟩ := hs
 simp only at hsl hr0 hr1 hc0 hc1 hq0 hq1 hd0 hd1
 have hF := slF hsl
 have hP := Slot.pl sl
 simp only [Scr.enc]
 rw [za5 (show T 237 = some (.code a237) from rfl) rfl rfl]
 (have fA := aI @hF @hP; refine gox ?_; clear fA)
 refine Eq.trans (zaa (heap' := [(0, ⟨(tag, 0), .int .i64 row :: .int .i64 col :: .int .i64 fg :: .int .i64 bg :: .bool flash :: .bool inv :: .bool under :: .bool conc :: .bool tall :: .bool wide :: .bool cursor :: .bool roll :: .bool masks :: .int .i64 bells :: (flat Slot.enc (ovr sl (r * 40 + f) (blks 0)) ++ [.bool waits, .int .i64 row0, .int .i64 col0, .int .i64 wr.kind, .int .i64 wr.a, .int .i64 wr.b, .int .i64 wr.c, .int .i64 wr.d, .int .i64 wr.set, .int .i64 wr.code])⟩)]) rfl (by rw [zle]) rfl) ?_
 refine zf7 (fun j => ⟨[(0, .ref 0 (tag, 0) 0), (1, .int .i64 (r : Nat)), (3, .int .i64 to), (8, .int .i64 ((f + j : Nat) : Int))], [(0, ⟨(tag, 0), .int .i64 row :: .int .i64 col :: .int .i64 fg :: .int .i64 bg :: .bool flash :: .bool inv :: .bool under :: .bool conc :: .bool tall :: .bool wide :: .bool cursor :: .bool roll :: .bool masks :: .int .i64 bells :: (flat Slot.enc (ovr sl (r * 40 + f) (blks j)) ++ [.bool waits, .int .i64 row0, .int .i64 col0, .int .i64 wr.kind, .int .i64 wr.a, .int .i64 wr.b, .int .i64 wr.c, .int .i64 wr.d, .int .i64 wr.set, .int .i64 wr.code])⟩)], 1, tag⟩) n _ ?_ ?_ 0 (by omega)
 ·intro j hj
  have hk : ((f + j : Nat) : Int) ≤ to := by omega
  have hw : IntKind.i64.wrap (((f + j : Nat) : Int) + 1) = ((f + (j + 1) : Nat) : Int) := by rw [w_i64 (by omega) (by omega)]; omega
  have b1 : (r : Int) < 25 := by omega
  have b2 : ((f + j : Nat) : Int) < 40 := by omega
  have lb := Slot.len blk
  have h1 : (ovr sl (r * 40 + f) (blks j)).length = 1000 := by rw [zbe (by rw [zak]; omega), hsl]
  have hF1 := slF h1
  have hp : ∀ T : List AV, setR (flat Slot.enc (ovr sl (r * 40 + f) (blks j)) ++ T) (r * 400 + (f + j) * 10) blk.enc = flat Slot.enc (ovr sl (r * 40 + f) (blks (j + 1))) ++ T := fun T => by
   have := zdd (sl := ovr sl (r * 40 + f) (blks j)) (v := blks 1) (k := r * 40 + f + j) T (by rw [zak]; omega)
   rw [zm7 (by omega), show (r * 40 + f + j) * 10 = r * 400 + (f + j) * 10 from by omega] at this
   exact this
  have hl : ∀ T : List AV, 14 + r * 400 + (f + j) * 10 + 10 ≤ (flat Slot.enc (ovr sl (r * 40 + f) (blks j)) ++ T).length + 14 := fun T => by rw [List.length_append, sl_len h1]; omega
  generalize hx : f + j = x at *
  (have fA := aI @hF (aI @hP (aI @hw (aI @hF1 (aI @lb (aI @hp (aI @s14 @hl)))))); have c1 := fun x1 => t_zBlank x1; refine gox ?_; clear fA c1)
  refine zaa ?_ ?_ rfl
  ·rw [hw]
  ·rfl
 ·have hk : ¬ ((f + n : Nat) : Int) ≤ to := by omega
  have h1 : (ovr sl (r * 40 + f) (blks n)).length = 1000 := by rw [zbe (by rw [zak]; omega), hsl]
  have hF1 := slF h1
  have hP1 := Slot.pl (ovr sl (r * 40 + f) (blks n))
  (have fA := aI @hF (aI @hP (aI @hF1 @hP1)); refine gox ?_; clear fA)
  (have fA := aI @hF (aI @hP (aI @hF1 @hP1)); refine finx ?_; clear fA; try with_reducible rfl)
  all_goals first | rfl | (simp []; done)
theorem zf8 (tag : Nat) (s : Scr) (hs : s.Ok) (f n : Nat) (to : Int) (hf : f + n ≤ 25) (ht : n = (to + 1 - f).toNat) (ht2 : -2 ≤ to) : callω L T 236 tag [.ref 0 (tag, 0) 0, .int .i64 f, .int .i64 to] [some s.enc, none, none] = some (.tup [], [some (sWipeR s f n).enc, none, none]) := by
 obtain ⟨row, col, fg, bg, flash, inv, under, conc, tall, wide, cursor, roll, masks, bells, sl, waits, row0, col0, wr⟩ := s
 obtain ⟨hsl, hr0, hr1, hc0, hc1, hq0, hq1, hd0, hd1⟩ := hs
 simp only at hsl hr0 hr1 hc0 hc1 hq0 hq1 hd0 hd1
 have hF := slF hsl
 have hP := Slot.pl sl
 simp only [Scr.enc]
 rw [za5 (show T 236 = some (.code a236) from rfl) rfl rfl]
 (have fA := aI @hF @hP; refine gox ?_; clear fA)
 refine Eq.trans (zaa (heap' := [(0, ⟨(tag, 0), .int .i64 row :: .int .i64 col :: .int .i64 fg :: .int .i64 bg :: .bool flash :: .bool inv :: .bool under :: .bool conc :: .bool tall :: .bool wide :: .bool cursor :: .bool roll :: .bool masks :: .int .i64 bells :: (flat Slot.enc (ovr sl (f * 40) (blks (0 * 40))) ++ [.bool waits, .int .i64 row0, .int .i64 col0, .int .i64 wr.kind, .int .i64 wr.a, .int .i64 wr.b, .int .i64 wr.c, .int .i64 wr.d, .int .i64 wr.set, .int .i64 wr.code])⟩)]) rfl (by rw [Nat.zero_mul, zle]) rfl) ?_
 refine zf7 (fun j => ⟨[(0, .ref 0 (tag, 0) 0), (2, .int .i64 to), (6, .int .i64 ((f + j : Nat) : Int))], [(0, ⟨(tag, 0), .int .i64 row :: .int .i64 col :: .int .i64 fg :: .int .i64 bg :: .bool flash :: .bool inv :: .bool under :: .bool conc :: .bool tall :: .bool wide :: .bool cursor :: .bool roll :: .bool masks :: .int .i64 bells :: (flat Slot.enc (ovr sl (f * 40) (blks (j * 40))) ++ [.bool waits, .int .i64 row0, .int .i64 col0, .int .i64 wr.kind, .int .i64 wr.a, .int .i64 wr.b, .int .i64 wr.c, .int .i64 wr.d, .int .i64 wr.set, .int .i64 wr.code])⟩)], 1, tag⟩) n _ ?_ ?_ 0 (by omega)
 ·intro j hj
  have hk : ((f + j : Nat) : Int) ≤ to := by omega
  have hw : IntKind.i64.wrap (((f + j : Nat) : Int) + 1) = ((f + (j + 1) : Nat) : Int) := by rw [w_i64 (by omega) (by omega)]; omega
  have b2 : ((f + j : Nat) : Int) < 25 := by omega
  have lb := zgd 40
  have h1 : (ovr sl (f * 40) (blks (j * 40))).length = 1000 := by rw [zbe (by rw [zak]; omega), hsl]
  have hF1 := slF h1
  have hp : ∀ T : List AV, setR (flat Slot.enc (ovr sl (f * 40) (blks (j * 40))) ++ T) ((f + j) * 400) (flat Slot.enc (blks 40)) = flat Slot.enc (ovr sl (f * 40) (blks ((j + 1) * 40))) ++ T := fun T => by
   have := zdd (sl := ovr sl (f * 40) (blks (j * 40))) (v := blks 40) (k := f * 40 + j * 40) T (by rw [zak]; omega)
   rw [zm7 (by omega), show (f * 40 + j * 40) * 10 = (f + j) * 400 from by omega, show j * 40 + 40 = (j + 1) * 40 from by omega] at this
   exact this
  have hl : ∀ T : List AV, 14 + (f + j) * 400 + 400 ≤ (flat Slot.enc (ovr sl (f * 40) (blks (j * 40))) ++ T).length + 14 := fun T => by rw [List.length_append, sl_len h1]; omega
  generalize hx : f + j = x at *
  (have fA := aI @hF (aI @hP (aI @hw (aI @hF1 (aI @lb (aI @hp (aI @s14a @hl)))))); have c1 := fun x1 => zi4 x1; refine gox ?_; clear fA c1)
  refine zaa ?_ ?_ rfl
  ·rw [hw]
  ·rfl
 ·have hk : ¬ ((f + n : Nat) : Int) ≤ to := by omega
  have h1 : (ovr sl (f * 40) (blks (n * 40))).length = 1000 := by rw [zbe (by rw [zak]; omega), hsl]
  have hF1 := slF h1
  have hP1 := Slot.pl (ovr sl (f * 40) (blks (n * 40)))
  (have fA := aI @hF (aI @hP (aI @hF1 @hP1)); refine gox ?_; clear fA)
  (have fA := aI @hF (aI @hP (aI @hF1 @hP1)); refine finx ?_; clear fA; try with_reducible rfl)
  all_goals first | rfl | (simp []; done)
def sClear (s : Scr) (a : Int) : Scr := if a = 1 then sHome (sWipeR s 1 24) else if a = 2 then sWipe s s.row.toNat s.col.toNat (40 - s.col).toNat else s
def sEraseRow (s : Scr) (a : Int) : Scr := if a = 0 then sWipe s s.row.toNat s.col.toNat (40 - s.col).toNat else if a = 1 then sWipe s s.row.toNat 0 (s.col + 1).toNat else if a = 2 then sWipe s s.row.toNat 0 40 else s
def sErasePage (s : Scr) (a : Int) : Scr := if a = 0 then sEraseRow (if s.row > 0 then sWipeR s (s.row + 1).toNat (24 - s.row).toNat else s) 0 else if a = 1 then sEraseRow (sWipeR s 1 (s.row - 1).toNat) 1 else if a = 2 then sWipeR s 1 24 else s
def sGoto (s : Scr) (r c : Int) : Scr := if r < 0 ∨ r > 24 ∨ c < 1 ∨ c > 40 then s else sReset { (if r = 0 ∧ s.row > 0 then { s with row0 := s.row, col0 := s.col } else s) with row := r, col := c - 1 }
def sWait (s : Scr) (a : Int) : Scr := { (if a = 88 ∨ a = 95 then { s with conc := decide (a = 88) } else if a = 90 ∨ a = 89 then { s with under := decide (a = 90) } else { s with bg := a - 80 }) with waits := true }
def sAttr (s : Scr) (a : Int) : Scr :=
 if 64 ≤ a ∧ a < 72 then { s with fg := a - 64 } else if (80 ≤ a ∧ a < 88) ∨ a = 88 ∨ a = 95 ∨ a = 90 ∨ a = 89 then sWait s a else
 if a = 72 ∨ a = 73 then { s with flash := decide (a = 72) } else if a = 76 ∨ a = 77 ∨ a = 78 ∨ a = 79 then { s with tall := decide (a = 77 ∨ a = 79), wide := decide (a = 78 ∨ a = 79) } else
 if a = 93 ∨ a = 92 then { s with inv := decide (a = 93) } else s
theorem Scr.Ok.eraseRow {s : Scr} (h : s.Ok) (a : Int) : (sEraseRow s a).Ok := by
 have h1 := h.r0; have h2 := h.r1; have h3 := h.c0; have h4 := h.c1
 unfold sEraseRow
 by_cases q : a = 0
 ·rw [if_pos q]; exact h.wipe (by omega) (by omega)
 rw [if_neg q]
 by_cases q2 : a = 1
 ·rw [if_pos q2]; exact h.wipe (by omega) (by omega)
 rw [if_neg q2]
 by_cases q3 : a = 2
 ·rw [if_pos q3]; exact h.wipe (by omega) (by omega)
 rw [if_neg q3]; exact h
theorem Scr.Ok.clear {s : Scr} (h : s.Ok) (a : Int) : (sClear s a).Ok := by
 have h1 := h.r0; have h2 := h.r1; have h3 := h.c0; have h4 := h.c1
 unfold sClear
 by_cases q : a = 1
 ·rw [if_pos q]; exact (h.wipeR (by omega)).home
 rw [if_neg q]
 by_cases q2 : a = 2
 ·rw [if_pos q2]; exact h.wipe (by omega) (by omega)
 rw [if_neg q2]; exact h
theorem Scr.Ok.erasePage {s : Scr} (h : s.Ok) (a : Int) : (sErasePage s a).Ok := by
 have h1 := h.r0; have h2 := h.r1; have h3 := h.c0; have h4 := h.c1
 unfold sErasePage
 by_cases q : a = 0
 ·rw [if_pos q]
  by_cases q2 : s.row > 0
  ·rw [if_pos q2]; exact (h.wipeR (by omega)).eraseRow 0
  ·rw [if_neg q2]; exact h.eraseRow 0
 rw [if_neg q]
 by_cases q2 : a = 1
 ·rw [if_pos q2]; exact (h.wipeR (by omega)).eraseRow 1
 rw [if_neg q2]
 by_cases q3 : a = 2
 ·rw [if_pos q3]; exact h.wipeR (by omega)
 rw [if_neg q3]; exact h
theorem Scr.Ok.goto {s : Scr} (h : s.Ok) (r c : Int) : (sGoto s r c).Ok := by
 obtain ⟨a, b1, b2, d, e, f, g, i, j⟩ := h
 unfold sGoto
 by_cases q : r < 0 ∨ r > 24 ∨ c < 1 ∨ c > 40
 ·rw [if_pos q]; exact ⟨a, b1, b2, d, e, f, g, i, j⟩
 rw [if_neg q]
 apply Scr.Ok.reset
 by_cases q2 : r = 0 ∧ s.row > 0
 ·rw [if_pos q2]; exact ⟨a, by simp only; omega, by simp only; omega, by simp only; omega, by simp only; omega, b1, b2, d, e⟩
 ·rw [if_neg q2]; exact ⟨a, by simp only; omega, by simp only; omega, by simp only; omega, by simp only; omega, f, g, i, j⟩
theorem Scr.Ok.wait {s : Scr} (h : s.Ok) (a : Int) : (sWait s a).Ok := by
 obtain ⟨a, b1, b2, d, e, f, g, i, j⟩ := h
 unfold sWait
 split
 ·exact ⟨a, b1, b2, d, e, f, g, i, j⟩
 ·split <;> exact ⟨a, b1, b2, d, e, f, g, i, j⟩
theorem Scr.Ok.attr {s : Scr} (h : s.Ok) (a : Int) : (sAttr s a).Ok := by
 have hw := h.wait a
 obtain ⟨a, b1, b2, d, e, f, g, i, j⟩ := h
 unfold sAttr
 split
 ·exact ⟨a, b1, b2, d, e, f, g, i, j⟩
 split
 ·exact hw
 split
 ·exact ⟨a, b1, b2, d, e, f, g, i, j⟩
 split
 ·exact ⟨a, b1, b2, d, e, f, g, i, j⟩
 split <;> exact ⟨a, b1, b2, d, e, f, g, i, j⟩
end
section
attribute [local simp] Ev.flen Ev.rd Ev.enc Slot.flen Slot.rd Slot.pute Slot.zero Slot.enc
def sNew : Scr := ⟨1, 0, 7, 0, false, false, false, false, false, false, false, false, true, 0, blks 1000, false, 1, 0, ⟨0, 0, 0, 0, 0, 0, 0⟩⟩
theorem zbo : sNew.Ok := ⟨zak 1000, by decide, by decide, by decide, by decide, by decide, by decide, by decide, by decide⟩
def zsl : List Slot := List.replicate 1000 Slot.none
theorem zgo (a b : Nat) (z : List AV) : repl a (repl b z) = repl (a * b) z := by
 induction a with
 | zero => simp [repl]
 | succ n ih =>
  have e : repl (n + 1) (repl b z) = repl b z ++ repl n (repl b z) := by simp [repl, List.replicate_succ]
  rw [e, ih]
  simp only [repl]
  rw [← List.flatten_append, List.replicate_append_replicate, Nat.add_mul, Nat.one_mul, Nat.add_comm]
theorem zfs : zsl.length = 1000 := List.length_replicate ..
theorem zsl_ovr : ovr zsl 0 (blks 1000) = blks 1000 := by
 simp only [ovr, List.take_zero, List.nil_append, zak]
 rw [List.drop_of_length_le (by rw [zfs]; decide), List.append_nil]
theorem zsl_start : setR (repl 25 (repl 40 [AV.int IntKind.i64 0, AV.int IntKind.i64 0, AV.bool false, AV.bool false, AV.int IntKind.i64 0, AV.int IntKind.i64 0, AV.bool false, AV.int IntKind.i64 0, AV.bool false, AV.bool false]) ++ [AV.bool false] ++ [AV.int IntKind.i64 0] ++ [AV.int IntKind.i64 0] ++ [AV.int IntKind.i64 0, AV.int IntKind.i64 0, AV.int IntKind.i64 0, AV.int IntKind.i64 0, AV.int IntKind.i64 0, AV.int IntKind.i64 0, AV.int IntKind.i64 0]) 10001 [AV.int IntKind.i64 1] = flat Slot.enc (ovr zsl 0 (blks (0 * 40))) ++ [AV.bool false, .int .i64 1, .int .i64 0, .int .i64 0, .int .i64 0, .int .i64 0, .int .i64 0, .int .i64 0, .int .i64 0, .int .i64 0] := by
 rw [Nat.zero_mul, zle, zgo]
 have z := Slot.zero 1000
 have e : repl (25 * 40) [AV.int IntKind.i64 0, AV.int IntKind.i64 0, AV.bool false, AV.bool false, AV.int IntKind.i64 0, AV.int IntKind.i64 0, AV.bool false, AV.int IntKind.i64 0, AV.bool false, AV.bool false] = flat Slot.enc zsl := z
 rw [e]
 have hl := sl_len zfs
 generalize flat Slot.enc zsl = X at hl ⊢
 simp only [List.append_assoc]
 have h2 : X ++ ([AV.bool false] ++ ([AV.int IntKind.i64 0] ++ ([AV.int IntKind.i64 0] ++ [AV.int IntKind.i64 0, AV.int IntKind.i64 0, AV.int IntKind.i64 0, AV.int IntKind.i64 0, AV.int IntKind.i64 0, AV.int IntKind.i64 0, AV.int IntKind.i64 0]))) = X ++ [AV.bool false, .int .i64 0, .int .i64 0, .int .i64 0, .int .i64 0, .int .i64 0, .int .i64 0, .int .i64 0, .int .i64 0, .int .i64 0] := rfl
 have h3 : ∀ b v, setR (X ++ b) 10001 v = X ++ setR b 1 v := fun b v => zae 1 (by omega)
 rw [h2, h3]
 rfl
theorem t_sNew (tag : Nat) : callH L T 76 tag [] [] = some (.ref 400000 (tag, 0) 0, [hb 400000 sNew.enc]) := by
 refine (za8 (show T (76 + 1000000000) = some (.hcode a76) from rfl) rfl (by simp only [argEnv, Nat.reduceAdd]; apply Eq.refl) (by simp only [hb, hHeap]; apply Eq.refl)).trans ?_
 (refine gox ?_)
 refine Eq.trans (zaa (heap' := [(5, ⟨(tag, 1), .int .i64 1 :: .int .i64 0 :: .int .i64 7 :: .int .i64 0 :: .bool false :: .bool false :: .bool false :: .bool false :: .bool false :: .bool false :: .bool false :: .bool false :: .bool true :: .int .i64 0 :: (flat Slot.enc (ovr zsl 0 (blks (0 * 40))) ++ [AV.bool false, .int .i64 1, .int .i64 0, .int .i64 0, .int .i64 0, .int .i64 0, .int .i64 0, .int .i64 0, .int .i64 0, .int .i64 0])⟩)]) rfl (by rw [zsl_start]) rfl) ?_
 refine zf7 (fun j => ⟨[(1, .ref 5 (tag, 1) 0), (6, .int .i64 (j : Nat))], [(5, ⟨(tag, 1), .int .i64 1 :: .int .i64 0 :: .int .i64 7 :: .int .i64 0 :: .bool false :: .bool false :: .bool false :: .bool false :: .bool false :: .bool false :: .bool false :: .bool false :: .bool true :: .int .i64 0 :: (flat Slot.enc (ovr zsl 0 (blks (j * 40))) ++ [AV.bool false, .int .i64 1, .int .i64 0, .int .i64 0, .int .i64 0, .int .i64 0, .int .i64 0, .int .i64 0, .int .i64 0, .int .i64 0])⟩)], 2, tag⟩) 25 _ ?_ ?_ 0 (by omega)
 ·intro j hj
  have hw : IntKind.i64.wrap ((j : Int) + 1) = ((j + 1 : Nat) : Int) := zah hj (by omega)
  have b2 : (j : Int) < 25 := by omega
  have lb := zgd 40
  have h1 : (ovr zsl 0 (blks (j * 40))).length = 1000 := by rw [zbe (by rw [zak, zfs]; omega), zfs]
  have hF1 := slF h1
  have hp : ∀ T : List AV, setR (flat Slot.enc (ovr zsl 0 (blks (j * 40))) ++ T) (j * 400) (flat Slot.enc (blks 40)) = flat Slot.enc (ovr zsl 0 (blks ((j + 1) * 40))) ++ T := fun T => by
   have h0 : 0 + j * 40 + 40 ≤ zsl.length := by rw [zfs]; omega
   have := zdd (sl := ovr zsl 0 (blks (j * 40))) (v := blks 40) (k := 0 + j * 40) T (by rw [zak, h1]; omega)
   rw [zm7 h0, show (0 + j * 40) * 10 = j * 400 from by omega, show j * 40 + 40 = (j + 1) * 40 from by omega] at this
   exact this
  have hl : ∀ T : List AV, 14 + j * 400 + 400 ≤ (flat Slot.enc (ovr zsl 0 (blks (j * 40))) ++ T).length + 14 := fun T => by rw [List.length_append, sl_len h1]; omega
  (have fA := aI @hw (aI @hF1 (aI @lb (aI @hp (aI @s14a @hl)))); have c1 := fun x1 => zi4 x1; refine gox ?_; clear fA c1)
  refine zaa ?_ ?_ rfl
  ·rw [hw]
  ·rfl
 ·have h1 : (ovr zsl 0 (blks (25 * 40))).length = 1000 := by rw [zbe (by rw [zak, zfs]; decide), zfs]
  have hF1 := slF h1
  have hP1 := Slot.pl (ovr zsl 0 (blks (25 * 40)))
  (have fA := aI @hF1 @hP1; refine gox ?_; clear fA)
  (have fA := aI @hF1 @hP1; refine finhx ?_; clear fA; try with_reducible rfl)
  all_goals first | (rw [show ovr zsl 0 (blks (25 * 40)) = blks 1000 from zsl_ovr]; rfl)
end
section
def frenchI (c : Int) : Int := if bAnd .u8 c 127 < 32 then 0 else bAnd .u8 c 31 + (if bAnd .u8 c 64 = 0 then 0 else 32)
def mGlyphI (p : Int) (s : Bool) : Int := 0x100000 + p % 64 + (if s then 64 else 0)
theorem french_a : byteB (fun c => decide (¬ bAnd .u8 c 127 < 32 → bAnd .u8 (bAnd .u8 c 127) 64 = 0 → IntKind.i64.wrap (bAnd .u8 (bAnd .u8 c 127) 31) = frenchI c)) = true := by decide +kernel
theorem french_b : byteB (fun c => decide (¬ bAnd .u8 c 127 < 32 → ¬ bAnd .u8 (bAnd .u8 c 127) 64 = 0 → bOr .i64 (IntKind.i64.wrap (bAnd .u8 (bAnd .u8 c 127) 31)) 32 = frenchI c)) = true := by decide +kernel
theorem glyph_eq (r : Nat) (hr : r < 64) : bOr .i64 (1048576 + (r : Int)) 64 = 1048576 + (r : Int) + 64 ∧ bOr .i64 1048576 r = 1048576 + (r : Int) := by
 revert r; decide +kernel
theorem and_64 (r : Nat) (hr : r < 128) : (bAnd .i64 r 64 = 0) = (r < 64) := by
 have : ∀ r : Nat, r < 128 → (bAnd .i64 r 64 = 0 ↔ r < 64) := by decide +kernel
 exact propext (this r hr)
def mOf (g : Int) : Int × Bool × Bool := if 0 ≤ g - 1048576 ∧ g - 1048576 < 128 then ((g - 1048576) % 64, decide (64 ≤ g - 1048576), true) else (0, false, false)
theorem zis (tag : Nat) (c : Int) (h0 : 0 ≤ c) (h1 : c < 256) : callω L T 300 tag [.int .u8 c] [none] = some (.int .i64 (frenchI c), [none]) := by
 rw [za5 (show T 300 = some (.code a300) from rfl) rfl rfl]
 by_cases h2 : bAnd .u8 c 127 < 32
 ·(refine gox ?_)
  (refine finx ?_; try with_reducible rfl)
  unfold frenchI; rw [if_pos h2]; rfl
 ·by_cases h3 : bAnd .u8 (bAnd .u8 c 127) 64 = 0
  ·(refine gox ?_)
   (refine finx ?_; try with_reducible rfl)
   rw [of_decide_eq_true (zcs french_a h0 h1) h2 h3]
  ·(refine gox ?_)
   (refine finx ?_; try with_reducible rfl)
   rw [of_decide_eq_true (zcs french_b h0 h1) h2 h3]
theorem zfk (tag : Nat) (p : Int) (s : Bool) : callω L T 180 tag [.int .i64 p, .bool s] [none, none] = some (.int .i64 (mGlyphI p s), [none, none]) := by
 rw [za5 (show T 180 = some (.code a180) from rfl) rfl rfl]
 obtain ⟨r, hr, e⟩ : ∃ r : Nat, r < 64 ∧ p % 64 = r := ⟨(p % 64).toNat, by omega, by omega⟩
 obtain ⟨q1, q2⟩ := glyph_eq r hr
 have q3 : bOr .i64 1048576 (bAnd .i64 p 63) = 1048576 + (r : Int) := by rw [and_63, e, q2]
 cases s with
 | false =>
  (refine gox ?_)
  (refine finx ?_; try with_reducible rfl)
  rw [q3, ← e]
  simp [mGlyphI]
 | true =>
  (refine gox ?_)
  (refine finx ?_; try with_reducible rfl)
  rw [q3, q1, ← e]
  rfl
theorem zic (tag : Nat) (g : Int) (hg0 : -9223372036853727232 ≤ g) (hg1 : g ≤ 9223372036854775807) : callω L T 179 tag [.int .i64 g] [none] = some (.tup [.int .i64 (mOf g).1, .bool (mOf g).2.1, .bool (mOf g).2.2], [none]) := by
 rw [za5 (show T 179 = some (.code a179) from rfl) rfl rfl]
 have e : IntKind.i64.wrap (g - 1048576) = g - 1048576 := w_i64 (by omega) (by omega)
 by_cases h : 0 ≤ g - 1048576 ∧ g - 1048576 < 128
 ·have e2 : mOf g = ((g - 1048576) % 64, decide (64 ≤ g - 1048576), true) := if_pos h
  rw [e2]
  obtain ⟨r, hr, e3⟩ : ∃ r : Nat, r < 128 ∧ g - 1048576 = r := ⟨(g - 1048576).toNat, by omega, by omega⟩
  have h1 : ¬ IntKind.i64.wrap (g - 1048576) < 0 := by rw [e]; omega
  have h2 : ¬ IntKind.i64.wrap (g - 1048576) ≥ 128 := by rw [e]; omega
  have h2' : ¬ 128 ≤ IntKind.i64.wrap (g - 1048576) := by rw [e]; omega
  (refine gox ?_)
  (refine finx ?_; try with_reducible rfl)
  rw [e, and_63]
  have h4 := and_64 r hr
  rw [← e3] at h4
  refine ans_eq ?_ rfl
  simp only [AV.tup.injEq, List.cons.injEq, AV.bool.injEq, and_true, true_and]
  by_cases q : r < 64
  ·have q2 : ¬ 64 ≤ g - 1048576 := by omega
   have q3 : bAnd .i64 (g - 1048576) 64 = 0 := by rw [h4]; exact q
   simp [q2, q3]
   rfl
  ·have q2 : 64 ≤ g - 1048576 := by omega
   have q3 : ¬ bAnd .i64 (g - 1048576) 64 = 0 := by rw [h4]; exact q
   simp [q2, q3]
   rfl
 ·have e2 : mOf g = (0, false, false) := if_neg h
  rw [e2]
  by_cases h1 : g - 1048576 < 0
  ·have h1' : IntKind.i64.wrap (g - 1048576) < 0 := by rw [e]; exact h1
   (refine gox ?_)
   (refine finx ?_; try with_reducible rfl)
   try rfl
  ·have h1' : ¬ IntKind.i64.wrap (g - 1048576) < 0 := by rw [e]; exact h1
   have h2 : 128 ≤ IntKind.i64.wrap (g - 1048576) := by rw [e]; omega
   (refine gox ?_)
   (refine finx ?_; try with_reducible rfl)
   try rfl
end
section
attribute [local simp] Slot.flen Slot.rd Slot.pute Slot.zero Slot.enc Cell.flen Cell.rd Cell.put Cell.pute Cell.zero Cell.enc
def mOfW (g : Int) : Int × Bool × Bool := let d := IntKind.i64.wrap (g - 1048576); if 0 ≤ d ∧ d < 128 then (d % 64, decide (64 ≤ d), true) else (0, false, false)
def zoneB (s : Slot) : Bool := s.mark || (mOfW s.glyph).2.2
structure Zn where
  bg : Int
  under : Bool
  conceal : Bool
def zstep (q : Zn) (s : Slot) : Zn := ⟨if zoneB s then s.bg else q.bg, if s.mark then s.under else q.under, if s.mark then s.conceal else q.conceal⟩
def zcell (masks : Bool) (q : Zn) (s : Slot) : Cell := ⟨if masks && q.conceal then 32 else if (mOfW s.glyph).2.2 then mGlyphI (mOfW s.glyph).1 q.under else s.glyph, s.fg, q.bg, s.flash, q.conceal, false, q.under && !(mOfW s.glyph).2.2, s.invert, s.high, s.wide⟩
def zst (l : List Slot) : Nat → Zn
  | 0 => ⟨0, false, false⟩
  | k + 1 => zstep (zst l k) (l.getD k Slot.none)
def zat (l : List Slot) (masks : Bool) (k : Nat) : Cell := zcell masks (zst l (k + 1)) (l.getD k Slot.none)
def zrow (l : List Slot) (masks : Bool) : List Cell := (List.range 40).map (zat l masks)
theorem t_OfW (tag : Nat) (g : Int) : callω L T 179 tag [.int .i64 g] [none] = some (.tup [.int .i64 (mOfW g).1, .bool (mOfW g).2.1, .bool (mOfW g).2.2], [none]) := by
  rw [za5 (show T 179 = some (.code a179) from rfl) rfl rfl]
  generalize hd : IntKind.i64.wrap (g - 1048576) = d
  by_cases h : 0 ≤ d ∧ d < 128
  · have e2 : mOfW g = (d % 64, decide (64 ≤ d), true) := by unfold mOfW; simp only [hd]; exact if_pos h
    rw [e2]
    obtain ⟨r, hr, e3⟩ : ∃ r : Nat, r < 128 ∧ d = r := ⟨d.toNat, by omega, by omega⟩
    have h1 : ¬ IntKind.i64.wrap (g - 1048576) < 0 := by rw [hd]; omega
    have h2 : ¬ IntKind.i64.wrap (g - 1048576) ≥ 128 := by rw [hd]; omega
    have h2' : ¬ 128 ≤ IntKind.i64.wrap (g - 1048576) := by rw [hd]; omega
    (refine gox ?_)
    (refine finx ?_; try with_reducible rfl)
    rw [hd, and_63]
    have h4 := and_64 r hr
    have h5 : decide (64 ≤ d) = decide (bAnd .i64 d 64 ≠ 0) := by
      rw [e3]
      have hx : (bAnd .i64 (r : Int) 64 ≠ 0) = ¬ (r < 64) := by rw [ne_eq, h4]
      by_cases q : r < 64
      · rw [decide_eq_false (by omega), decide_eq_false (by rw [hx]; omega)]
      · rw [decide_eq_true (by omega), decide_eq_true (by rw [hx]; exact q)]
    rw [h5]
    first | rfl
  · have e2 : mOfW g = (0, false, false) := by unfold mOfW; simp only [hd]; exact if_neg h
    rw [e2]
    by_cases h1 : IntKind.i64.wrap (g - 1048576) < 0
    · (refine gox ?_)
      (refine finx ?_; try with_reducible rfl)
      first | rfl
    · have h2 : 128 ≤ IntKind.i64.wrap (g - 1048576) := by rw [hd] at h1 ⊢; omega
      have h2' : IntKind.i64.wrap (g - 1048576) ≥ 128 := h2
      (refine gox ?_)
      (refine finx ?_; try with_reducible rfl)
      first | rfl
theorem t_zone_Is (tag : Nat) (s : Slot) : callω L T 178 tag [.agg s.enc] [none] = some (.bool (zoneB s), [none]) := by
  rw [za5 (show T 178 = some (.code a178) from rfl) rfl rfl]
  obtain ⟨g, fg, fl, inv, hi, wi, mk, bg, un, cc⟩ := s
  have cO := fun t => t_OfW t g
  unfold zoneB
  simp only
  generalize mOfW g = q at cO ⊢
  obtain ⟨q1, q2, q3⟩ := q
  simp only [Slot.enc] at cO ⊢
  cases mk
  · (have c1 := fun x1 => cO x1; refine gox ?_; clear c1)
    (refine finx ?_; try with_reducible rfl)
    first | rfl | (cases q3 <;> rfl)
  · (have c1 := fun x1 => cO x1; refine gox ?_; clear c1)
    (refine finx ?_; try with_reducible rfl)
    first | rfl
theorem t_zone_Row (tag : Nat) (l : List Slot) (hl : l.length = 40) (masks : Bool) : callω L T 125 tag [.agg (flat Slot.enc l), .bool masks] [none, none] = some (.agg (flat Cell.enc (zrow l masks)), [none, none]) := by
  rw [za5 (show T 125 = some (.code a125) from rfl) rfl rfl]
  have hf := Slot.flen l
  have hf2 : (flat Slot.enc l).length = 400 := by rw [Slot.flen]; omega
  have tk : (flat Slot.enc l).take 400 = flat Slot.enc l := List.take_of_length_le (by rw [Slot.flen]; omega)
  have z := Cell.zero 40
  rw [← zpz (zat l masks)] at z
  (have fA := aI @tk (aI @z @hf2); refine gox ?_; clear fA)
  refine zcr (fun k nx => ⟨[(1, .bool masks), (4, .ref 4 (tag, 2) 0), (5, .ref 5 (tag, 3) 0), (6, .int .i64 (zst l k).bg), (7, .bool (zst l k).under), (8, .bool (zst l k).conceal), (15, .agg (flat Slot.enc l)), (16, .int .i64 (k : Nat))], [(4, ⟨(tag, 2), flat Cell.enc (fillup (zat l masks) Cell.none 40 0)⟩), (5, ⟨(tag, 3), flat Cell.enc (fillup (zat l masks) Cell.none 40 k)⟩)], nx, tag⟩) 40 _ ?_ ?_ 0 _ (by omega)
  · intro k nx hk
    have hkl : k < l.length := by omega
    have hkI : (k : Int) < 40 := by omega
    have hw : IntKind.i64.wrap ((k : Int) + 1) = ((k + 1 : Nat) : Int) := zah hk (by omega)
    have hz : zst l (k + 1) = zstep (zst l k) l[k] := by rw [zst]; simp [hkl]
    have hv : zat l masks k = zcell masks (zstep (zst l k) l[k]) l[k] := by unfold zat; rw [hz]; simp [hkl]
    have hFl := zfj (zat l masks) Cell.none 40 k
    have hset : ∀ v, v = zat l masks k → (fillup (zat l masks) Cell.none 40 k).set k v = fillup (zat l masks) Cell.none 40 (k + 1) := fun v h => zpt h
    have hrd := Slot.rd hkl
    have hIs := fun t => t_zone_Is t l[k]
    have hOf := fun t => t_OfW t l[k].glyph
    rw [hv] at hset
    rw [hz]
    generalize fillup (zat l masks) Cell.none 40 (k + 1) = F2 at hset ⊢
    generalize fillup (zat l masks) Cell.none 40 k = F at hFl hset ⊢
    generalize fillup (zat l masks) Cell.none 40 0 = F0
    generalize zst l k = q at hset ⊢
    generalize l[k] = x at hrd hIs hOf hset ⊢
    have hFl2 : (flat Cell.enc F).length = 400 := by rw [Cell.flen]; omega
    have hkF : k < F.length := by omega
    have hput := fun a0 a1 a2 a3 a4 a5 a6 a7 a8 a9 => Cell.put (xs := F) (i := k) (a0 := a0) (a1 := a1) (a2 := a2) (a3 := a3) (a4 := a4) (a5 := a5) (a6 := a6) (a7 := a7) (a8 := a8) (a9 := a9) hkF
    obtain ⟨g, fg, fl, inv, hi, wi, mk, bg, un, cc⟩ := x
    obtain ⟨zb, zu, zc⟩ := q
    have hG := fun t (u : Bool) => zfk t (mOfW g).1 u
    obtain ⟨o1, o2, o3, ho⟩ : ∃ a b c, mOfW g = (a, b, c) := ⟨_, _, _, rfl⟩
    simp only [zcell, zstep, zoneB, Slot.enc, ho] at hrd hIs hOf hset hG ⊢
    have hb1 : k * 10 + 10 ≤ 400 := by omega
    refine ⟨nx + 1 + 1, ?_⟩
    cases mk
    · cases o3
      all_goals simp only [Bool.or_self, Bool.or_true, Bool.or_false, Bool.true_or, Bool.false_or, if_true, Bool.false_eq_true, if_false, Bool.not_true, Bool.not_false, Bool.and_true, Bool.and_false] at hIs hOf hset ⊢
      all_goals (obtain hm | ⟨hm, hc⟩ : masks = false ∨ (masks = true ∧ (zc = true ∨ zc = false)) := by cases masks <;> cases zc <;> simp)
      all_goals subst hm
      any_goals (rcases hc with hc | hc <;> subst hc)
      all_goals simp only [Bool.false_and, Bool.true_and, Bool.false_eq_true, if_false, if_true] at hset
      all_goals first
        | ((have fA := aI @hrd (aI @hFl2 (aI @hput (aI @hf2 (aI @hkI @hb1)))); have c1 := fun x1 => hIs x1; have c2 := fun x1 => hOf x1; have c3 := fun x1 => hG x1 zu; refine gox ?_; clear fA c1 c2 c3)
           refine zaa ?_ ?_ rfl
           · rw [hw]
           · rw [hset _ rfl])
       
    · cases o3
      all_goals simp only [Bool.or_self, Bool.or_true, Bool.or_false, Bool.true_or, Bool.false_or, if_true, Bool.false_eq_true, if_false, Bool.not_true, Bool.not_false, Bool.and_true, Bool.and_false] at hIs hOf hset ⊢
      all_goals (obtain hm | ⟨hm, hc⟩ : masks = false ∨ (masks = true ∧ (cc = true ∨ cc = false)) := by cases masks <;> cases cc <;> simp)
      all_goals subst hm
      any_goals (rcases hc with hc | hc <;> subst hc)
      all_goals simp only [Bool.false_and, Bool.true_and, Bool.false_eq_true, if_false, if_true] at hset
      all_goals first
        | ((have fA := aI @hrd (aI @hFl2 (aI @hput (aI @hf2 (aI @hkI @hb1)))); have c1 := fun x1 => hIs x1; have c2 := fun x1 => hOf x1; have c3 := fun x1 => hG x1 un; refine gox ?_; clear fA c1 c2 c3)
           refine zaa ?_ ?_ rfl
           · rw [hw]
           · rw [hset _ rfl])
       
  · intro nx
    generalize hF : fillup (zat l masks) Cell.none 40 40 = F
    have hFl := zfj (zat l masks) Cell.none 40 40
    rw [hF] at hFl
    have hFl2 : (flat Cell.enc F).length = 400 := by rw [Cell.flen]; omega
    have hs : setR (flat Cell.enc (fillup (zat l masks) Cell.none 40 0)) 0 (flat Cell.enc F) = flat Cell.enc F := zbn (by rw [Cell.flen, Cell.flen, zfj, hFl])
    have h0 : (flat Cell.enc (fillup (zat l masks) Cell.none 40 0)).length = 400 := by rw [Cell.flen, zfj]
    have tk2 : List.take 400 (flat Cell.enc F) = flat Cell.enc F := List.take_of_length_le (by omega)
    have hpl := Cell.pl F
    (have fA := aI @hFl2 (aI @hs (aI @tk2 @h0)); refine gox ?_; clear fA)
    (have fA := aI @hFl2 (aI @tk2 @hpl); refine finx ?_; clear fA; try with_reducible rfl)
    rw [← hF, zpx]
    first | rfl
end
section
attribute [local simp] Ev.flen Ev.rd Ev.enc Slot.flen Slot.rd Slot.pute Slot.zero Slot.enc Cell.flen Cell.rd Cell.put Cell.pute Cell.zero Cell.enc
def rowc (s : Scr) (r : Nat) : List Cell := zrow ((s.sl.drop (r * 40)).take 40) s.masks
def gridP (f : Nat → List Cell) (k : Nat) : List Cell := (List.range k).flatMap f
def gridL (s : Scr) : List Cell := gridP (rowc s) 25
theorem zf0 (l : List Slot) (m : Bool) : (zrow l m).length = 40 := by simp [zrow]
theorem zh6 (f : Nat → List Cell) (k : Nat) : gridP f (k + 1) = gridP f k ++ f k := by simp [gridP, List.range_succ]
theorem zcf {f : Nat → List Cell} (h : ∀ k, (f k).length = 40) (k : Nat) : (gridP f k).length = k * 40 := by
 induction k with
 | zero => rfl
 | succ n ih => rw [zh6, List.length_append, ih, h]; omega
def gridF (f : Nat → List Cell) (k : Nat) : List Cell := gridP f k ++ List.replicate (1000 - k * 40) Cell.none
theorem ziz {f : Nat → List Cell} (h : ∀ k, (f k).length = 40) {k : Nat} (hk : k ≤ 25) : (gridF f k).length = 1000 := by
 rw [gridF, List.length_append, zcf h, List.length_replicate]; omega
theorem zg5 (a b : List Cell) : flat Cell.enc (a ++ b) = flat Cell.enc a ++ flat Cell.enc b := by simp [flat]
theorem gridF_set {f : Nat → List Cell} (h : ∀ k, (f k).length = 40) {k : Nat} (hk : k < 25) : setR (flat Cell.enc (gridF f k)) (k * 400) (flat Cell.enc (f k)) = flat Cell.enc (gridF f (k + 1)) := by
 have h1 : (flat Cell.enc (gridP f k)).length = k * 400 := by rw [Cell.flen, zcf h]; omega
 have h2 : 1000 - k * 40 = 40 + (1000 - (k + 1) * 40) := by omega
 have h3 : (flat Cell.enc (f k)).length = 400 := by rw [Cell.flen, h]
 have h4 : (flat Cell.enc (List.replicate 40 Cell.none)).length = 400 := by rw [Cell.flen, List.length_replicate]
 rw [gridF, gridF, zh6, h2, ← List.replicate_append_replicate, zg5, zg5, zg5, zg5]
 have s0 : ∀ b v, setR (flat Cell.enc (gridP f k) ++ b) (k * 400) v = flat Cell.enc (gridP f k) ++ setR b 0 v := fun b v => zae 0 (by omega)
 rw [s0, zbd, h3, List.drop_append_of_le_length (by omega), List.drop_of_length_le (by omega), List.nil_append, List.append_assoc]
theorem d14 {c0 c1 c2 c3 c4 c5 c6 c7 c8 c9 c10 c11 c12 c13 : AV} {X : List AV} (k : Nat) : (c0 :: c1 :: c2 :: c3 :: c4 :: c5 :: c6 :: c7 :: c8 :: c9 :: c10 :: c11 :: c12 :: c13 :: X).drop (14 + k) = X.drop k := by
 rw [Nat.add_comm]; rfl
end
section
attribute [local simp] Ev.flen Ev.rd Ev.enc Slot.flen Slot.rd Slot.pute Slot.zero Slot.enc
theorem zf4 (tag : Nat) (s : Scr) (hs : s.Ok) (a : Int) : callω L T 192 tag [.ref 0 (tag, 0) 0, .int .i64 a] [some s.enc, none] = some (.tup [], [some (sEraseRow s a).enc, none]) := by
 obtain ⟨row, col, fg, bg, flash, inv, under, conc, tall, wide, cursor, roll, masks, bells, sl, waits, row0, col0, wr⟩ := s
 obtain ⟨hsl, hr0, hr1, hc0, hc1, hq0, hq1, hd0, hd1⟩ := hs
 simp only at hsl hr0 hr1 hc0 hc1 hq0 hq1 hd0 hd1
 have hF := slF hsl
 have hP := Slot.pl sl
 simp only [Scr.enc]
 rw [za5 (show T 192 = some (.code a192) from rfl) rfl rfl]
 obtain ⟨R, rfl⟩ : ∃ R : Nat, row = R := ⟨row.toNat, by omega⟩
 obtain ⟨C, rfl⟩ : ∃ C : Nat, col = C := ⟨col.toNat, by omega⟩
 unfold sEraseRow
 have e40 : (40 - (C : Int)).toNat = 40 - C := by omega
 have e1 : ((C : Int) + 1).toNat = C + 1 := by omega
 simp only [Int.toNat_natCast, e40, e1]
 clear e40 e1
 by_cases q : a = 0
 ·rw [if_pos q]
  subst q
  have cR := fun tag => t_wipe tag ⟨(R : Int), (C : Int), fg, bg, flash, inv, under, conc, tall, wide, cursor, roll, masks, bells, sl, waits, row0, col0, wr⟩ ⟨hsl, hr0, hr1, hc0, hc1, hq0, hq1, hd0, hd1⟩ R C (40 - C) 39 (by omega) (by omega) (by omega) (by omega)
  have cRk : ((sWipe ⟨(R : Int), (C : Int), fg, bg, flash, inv, under, conc, tall, wide, cursor, roll, masks, bells, sl, waits, row0, col0, wr⟩ R C (40 - C)) : Scr).Ok := Scr.Ok.wipe (s := ⟨(R : Int), (C : Int), fg, bg, flash, inv, under, conc, tall, wide, cursor, roll, masks, bells, sl, waits, row0, col0, wr⟩) ⟨hsl, hr0, hr1, hc0, hc1, hq0, hq1, hd0, hd1⟩ (by omega) (by omega)
  have cRs := cRk.sl
  have cRF := slF cRs
  have cRP := Slot.pl ((sWipe ⟨(R : Int), (C : Int), fg, bg, flash, inv, under, conc, tall, wide, cursor, roll, masks, bells, sl, waits, row0, col0, wr⟩ R C (40 - C)) : Scr).sl
  simp only [Scr.enc, sWipe] at cR cRs cRF cRP
  have rT := slR hsl cRs
  (have fA := aI @hF (aI @hP (aI @cRF (aI @cRP @rT))); have c1 := fun x1 => cR x1; refine gox ?_; clear fA c1)
  (have fA := aI @hF (aI @hP (aI @cRF (aI @cRP @rT))); refine finx ?_; clear fA; try with_reducible rfl)
  all_goals first | rfl | (simp []; done)
 rw [if_neg q]
 by_cases q2 : a = 1
 ·rw [if_pos q2]
  subst q2
  have cR := fun tag => t_wipe tag ⟨(R : Int), (C : Int), fg, bg, flash, inv, under, conc, tall, wide, cursor, roll, masks, bells, sl, waits, row0, col0, wr⟩ ⟨hsl, hr0, hr1, hc0, hc1, hq0, hq1, hd0, hd1⟩ R 0 (C + 1) C (by omega) (by omega) (by omega) (by omega)
  have cRk : ((sWipe ⟨(R : Int), (C : Int), fg, bg, flash, inv, under, conc, tall, wide, cursor, roll, masks, bells, sl, waits, row0, col0, wr⟩ R 0 (C + 1)) : Scr).Ok := Scr.Ok.wipe (s := ⟨(R : Int), (C : Int), fg, bg, flash, inv, under, conc, tall, wide, cursor, roll, masks, bells, sl, waits, row0, col0, wr⟩) ⟨hsl, hr0, hr1, hc0, hc1, hq0, hq1, hd0, hd1⟩ (by omega) (by omega)
  have cRs := cRk.sl
  have cRF := slF cRs
  have cRP := Slot.pl ((sWipe ⟨(R : Int), (C : Int), fg, bg, flash, inv, under, conc, tall, wide, cursor, roll, masks, bells, sl, waits, row0, col0, wr⟩ R 0 (C + 1)) : Scr).sl
  simp only [Scr.enc, sWipe] at cR cRs cRF cRP
  simp only [Nat.add_zero] at cR cRs cRF cRP
  have rT := slR hsl cRs
  (have fA := aI @hF (aI @hP (aI @cRF (aI @cRP @rT))); have c1 := fun x1 => cR x1; refine gox ?_; clear fA c1)
  (have fA := aI @hF (aI @hP (aI @cRF (aI @cRP @rT))); refine finx ?_; clear fA; try with_reducible rfl)
  all_goals first | rfl | (simp []; done)
 rw [if_neg q2]
 by_cases q3 : a = 2
 ·rw [if_pos q3]
  subst q3
  have cR := fun tag => t_wipe tag ⟨(R : Int), (C : Int), fg, bg, flash, inv, under, conc, tall, wide, cursor, roll, masks, bells, sl, waits, row0, col0, wr⟩ ⟨hsl, hr0, hr1, hc0, hc1, hq0, hq1, hd0, hd1⟩ R 0 40 39 (by omega) (by omega) (by omega) (by omega)
  have cRk : ((sWipe ⟨(R : Int), (C : Int), fg, bg, flash, inv, under, conc, tall, wide, cursor, roll, masks, bells, sl, waits, row0, col0, wr⟩ R 0 40) : Scr).Ok := Scr.Ok.wipe (s := ⟨(R : Int), (C : Int), fg, bg, flash, inv, under, conc, tall, wide, cursor, roll, masks, bells, sl, waits, row0, col0, wr⟩) ⟨hsl, hr0, hr1, hc0, hc1, hq0, hq1, hd0, hd1⟩ (by omega) (by omega)
  have cRs := cRk.sl
  have cRF := slF cRs
  have cRP := Slot.pl ((sWipe ⟨(R : Int), (C : Int), fg, bg, flash, inv, under, conc, tall, wide, cursor, roll, masks, bells, sl, waits, row0, col0, wr⟩ R 0 40) : Scr).sl
  simp only [Scr.enc, sWipe] at cR cRs cRF cRP
  simp only [Nat.add_zero] at cR cRs cRF cRP
  have rT := slR hsl cRs
  (have fA := aI @hF (aI @hP (aI @cRF (aI @cRP @rT))); have c1 := fun x1 => cR x1; refine gox ?_; clear fA c1)
  (have fA := aI @hF (aI @hP (aI @cRF (aI @cRP @rT))); refine finx ?_; clear fA; try with_reducible rfl)
  all_goals first | rfl | (simp []; done)
 rw [if_neg q3]
 (have fA := aI @hF @hP; refine gox ?_; clear fA)
 (have fA := aI @hF @hP; refine finx ?_; clear fA; try with_reducible rfl)
 all_goals first | rfl | (simp []; done)
theorem t_goTo (tag : Nat) (s : Scr) (hs : s.Ok) (r c : Int) : callω L T 189 tag [.ref 0 (tag, 0) 0, .int .i64 r, .int .i64 c] [some s.enc, none, none] = some (.tup [], [some (sGoto s r c).enc, none, none]) := by
 obtain ⟨row, col, fg, bg, flash, inv, under, conc, tall, wide, cursor, roll, masks, bells, sl, waits, row0, col0, wr⟩ := s
 obtain ⟨hsl, hr0, hr1, hc0, hc1, hq0, hq1, hd0, hd1⟩ := hs
 simp only at hsl hr0 hr1 hc0 hc1 hq0 hq1 hd0 hd1
 have hF := slF hsl
 have hP := Slot.pl sl
 simp only [Scr.enc]
 rw [za5 (show T 189 = some (.code a189) from rfl) rfl rfl]
 unfold sGoto
 by_cases q1 : r < 0
 ·rw [if_pos (.inl q1)]
  (have fA := aI @hF @hP; refine gox ?_; clear fA)
  (have fA := aI @hF @hP; refine finx ?_; clear fA; try with_reducible rfl)
  all_goals first | rfl | (simp []; done)
 by_cases q2 : r > 24
 ·rw [if_pos (.inr (.inl q2))]
  (have fA := aI @hF @hP; refine gox ?_; clear fA)
  (have fA := aI @hF @hP; refine finx ?_; clear fA; try with_reducible rfl)
  all_goals first | rfl | (simp []; done)
 by_cases q3 : c < 1
 ·rw [if_pos (.inr (.inr (.inl q3)))]
  (have fA := aI @hF @hP; refine gox ?_; clear fA)
  (have fA := aI @hF @hP; refine finx ?_; clear fA; try with_reducible rfl)
  all_goals first | rfl | (simp []; done)
 by_cases q4 : c > 40
 ·rw [if_pos (.inr (.inr (.inr q4)))]
  (have fA := aI @hF @hP; refine gox ?_; clear fA)
  (have fA := aI @hF @hP; refine finx ?_; clear fA; try with_reducible rfl)
  all_goals first | rfl | (simp []; done)
 rw [if_neg (by omega)]
 have w : IntKind.i64.wrap (c - 1) = c - 1 := w_i64 (by omega) (by omega)
 simp only
 by_cases q5 : r = 0
 ·by_cases q6 : row > 0
  ·rw [if_pos ⟨q5, q6⟩]
   subst q5
   have cR := fun tag => zm6 tag ⟨0, IntKind.i64.wrap (c - 1), fg, bg, flash, inv, under, conc, tall, wide, cursor, roll, masks, bells, sl, waits, row, col, wr⟩ ⟨hsl, by simp, by simp, by simp only; omega, by simp only; omega, hr0, hr1, hc0, hc1⟩
   have cRk : ((sReset ⟨0, IntKind.i64.wrap (c - 1), fg, bg, flash, inv, under, conc, tall, wide, cursor, roll, masks, bells, sl, waits, row, col, wr⟩) : Scr).Ok := Scr.Ok.reset ⟨hsl, by simp, by simp, by simp only; omega, by simp only; omega, hr0, hr1, hc0, hc1⟩
   have cRs := cRk.sl
   have cRF := slF cRs
   have cRP := Slot.pl ((sReset ⟨0, IntKind.i64.wrap (c - 1), fg, bg, flash, inv, under, conc, tall, wide, cursor, roll, masks, bells, sl, waits, row, col, wr⟩) : Scr).sl
   simp only [Scr.enc, sReset] at cR cRs cRF cRP
   have rT := slR hsl hsl
   (have fA := aI @hF (aI @hP @rT); have c1 := fun x1 => cR x1; refine gox ?_; clear fA c1)
   (have fA := aI @hF (aI @hP @rT); refine finx ?_; clear fA; try with_reducible rfl)
   all_goals first | rfl | (simp [w, sReset]; done)
  ·rw [if_neg (fun e => q6 e.2)]
   subst q5
   have cR := fun tag => zm6 tag ⟨0, IntKind.i64.wrap (c - 1), fg, bg, flash, inv, under, conc, tall, wide, cursor, roll, masks, bells, sl, waits, row0, col0, wr⟩ ⟨hsl, by simp, by simp, by simp only; omega, by simp only; omega, hq0, hq1, hd0, hd1⟩
   have cRk : ((sReset ⟨0, IntKind.i64.wrap (c - 1), fg, bg, flash, inv, under, conc, tall, wide, cursor, roll, masks, bells, sl, waits, row0, col0, wr⟩) : Scr).Ok := Scr.Ok.reset ⟨hsl, by simp, by simp, by simp only; omega, by simp only; omega, hq0, hq1, hd0, hd1⟩
   have cRs := cRk.sl
   have cRF := slF cRs
   have cRP := Slot.pl ((sReset ⟨0, IntKind.i64.wrap (c - 1), fg, bg, flash, inv, under, conc, tall, wide, cursor, roll, masks, bells, sl, waits, row0, col0, wr⟩) : Scr).sl
   simp only [Scr.enc, sReset] at cR cRs cRF cRP
   have rT := slR hsl hsl
   (have fA := aI @hF (aI @hP @rT); have c1 := fun x1 => cR x1; refine gox ?_; clear fA c1)
   (have fA := aI @hF (aI @hP @rT); refine finx ?_; clear fA; try with_reducible rfl)
   all_goals first | rfl | (simp [w, sReset]; done)
 ·rw [if_neg (fun e => q5 e.1)]
  have cR := fun tag => zm6 tag ⟨r, IntKind.i64.wrap (c - 1), fg, bg, flash, inv, under, conc, tall, wide, cursor, roll, masks, bells, sl, waits, row0, col0, wr⟩ ⟨hsl, by simp only; omega, by simp only; omega, by simp only; omega, by simp only; omega, hq0, hq1, hd0, hd1⟩
  have cRk : ((sReset ⟨r, IntKind.i64.wrap (c - 1), fg, bg, flash, inv, under, conc, tall, wide, cursor, roll, masks, bells, sl, waits, row0, col0, wr⟩) : Scr).Ok := Scr.Ok.reset ⟨hsl, by simp only; omega, by simp only; omega, by simp only; omega, by simp only; omega, hq0, hq1, hd0, hd1⟩
  have cRs := cRk.sl
  have cRF := slF cRs
  have cRP := Slot.pl ((sReset ⟨r, IntKind.i64.wrap (c - 1), fg, bg, flash, inv, under, conc, tall, wide, cursor, roll, masks, bells, sl, waits, row0, col0, wr⟩) : Scr).sl
  simp only [Scr.enc, sReset] at cR cRs cRF cRP
  have rT := slR hsl hsl
  (have fA := aI @hF (aI @hP @rT); have c1 := fun x1 => cR x1; refine gox ?_; clear fA c1)
  (have fA := aI @hF (aI @hP @rT); refine finx ?_; clear fA; try with_reducible rfl)
  all_goals first | rfl | (simp [w, sReset]; done)
end
section
attribute [local simp] Ev.flen Ev.rd Ev.enc Slot.flen Slot.rd Slot.pute Slot.zero Slot.enc
theorem t_clear (tag : Nat) (s : Scr) (hs : s.Ok) (a : Int) : callω L T 187 tag [.ref 0 (tag, 0) 0, .int .i64 a] [some s.enc, none] = some (.tup [], [some (sClear s a).enc, none]) := by
 obtain ⟨row, col, fg, bg, flash, inv, under, conc, tall, wide, cursor, roll, masks, bells, sl, waits, row0, col0, wr⟩ := s
 obtain ⟨hsl, hr0, hr1, hc0, hc1, hq0, hq1, hd0, hd1⟩ := hs
 simp only at hsl hr0 hr1 hc0 hc1 hq0 hq1 hd0 hd1
 have hF := slF hsl
 have hP := Slot.pl sl
 simp only [Scr.enc]
 rw [za5 (show T 187 = some (.code a187) from rfl) rfl rfl]
 obtain ⟨R, rfl⟩ : ∃ R : Nat, row = R := ⟨row.toNat, by omega⟩
 obtain ⟨C, rfl⟩ : ∃ C : Nat, col = C := ⟨col.toNat, by omega⟩
 unfold sClear
 have e40 : (40 - (C : Int)).toNat = 40 - C := by omega
 simp only [Int.toNat_natCast, e40]
 clear e40
 by_cases q : a = 1
 ·rw [if_pos q]
  subst q
  have cR := fun tag => zf8 tag ⟨(R : Int), (C : Int), fg, bg, flash, inv, under, conc, tall, wide, cursor, roll, masks, bells, sl, waits, row0, col0, wr⟩ ⟨hsl, hr0, hr1, hc0, hc1, hq0, hq1, hd0, hd1⟩ 1 24 24 (by omega) (by omega) (by omega)
  have cRk : ((sWipeR ⟨(R : Int), (C : Int), fg, bg, flash, inv, under, conc, tall, wide, cursor, roll, masks, bells, sl, waits, row0, col0, wr⟩ 1 24) : Scr).Ok := Scr.Ok.wipeR (s := ⟨(R : Int), (C : Int), fg, bg, flash, inv, under, conc, tall, wide, cursor, roll, masks, bells, sl, waits, row0, col0, wr⟩) ⟨hsl, hr0, hr1, hc0, hc1, hq0, hq1, hd0, hd1⟩ (by omega)
  have cRs := cRk.sl
  have cRF := slF cRs
  have cRP := Slot.pl ((sWipeR ⟨(R : Int), (C : Int), fg, bg, flash, inv, under, conc, tall, wide, cursor, roll, masks, bells, sl, waits, row0, col0, wr⟩ 1 24) : Scr).sl
  simp only [Scr.enc, sWipeR] at cR cRs cRF cRP
  have cH := fun tag => t_home tag (sWipeR ⟨(R : Int), (C : Int), fg, bg, flash, inv, under, conc, tall, wide, cursor, roll, masks, bells, sl, waits, row0, col0, wr⟩ 1 24) (Scr.Ok.wipeR (s := ⟨(R : Int), (C : Int), fg, bg, flash, inv, under, conc, tall, wide, cursor, roll, masks, bells, sl, waits, row0, col0, wr⟩) ⟨hsl, hr0, hr1, hc0, hc1, hq0, hq1, hd0, hd1⟩ (by omega))
  have cHk : ((sHome (sWipeR ⟨(R : Int), (C : Int), fg, bg, flash, inv, under, conc, tall, wide, cursor, roll, masks, bells, sl, waits, row0, col0, wr⟩ 1 24)) : Scr).Ok := Scr.Ok.home (Scr.Ok.wipeR (s := ⟨(R : Int), (C : Int), fg, bg, flash, inv, under, conc, tall, wide, cursor, roll, masks, bells, sl, waits, row0, col0, wr⟩) ⟨hsl, hr0, hr1, hc0, hc1, hq0, hq1, hd0, hd1⟩ (by omega))
  have cHs := cHk.sl
  have cHF := slF cHs
  have cHP := Slot.pl ((sHome (sWipeR ⟨(R : Int), (C : Int), fg, bg, flash, inv, under, conc, tall, wide, cursor, roll, masks, bells, sl, waits, row0, col0, wr⟩ 1 24)) : Scr).sl
  simp only [Scr.enc, sHome, sReset, sWipeR] at cH cHs cHF cHP
  have rT := slR hsl cRs
  have rT2 := slR cRs cHs
  (have fA := aI @hF (aI @hP (aI @cRF (aI @cRP (aI @cHF (aI @cHP (aI @rT @rT2)))))); have c1 := fun x1 => cR x1; have c2 := fun x1 => cH x1; refine gox ?_; clear fA c1 c2)
  (have fA := aI @hF (aI @hP (aI @cRF (aI @cRP (aI @cHF (aI @cHP (aI @rT @rT2)))))); refine finx ?_; clear fA; try with_reducible rfl)
  all_goals first | rfl | (simp []; done)
 rw [if_neg q]
 by_cases q2 : a = 2
 ·rw [if_pos q2]
  subst q2
  have cR := fun tag => t_wipe tag ⟨(R : Int), (C : Int), fg, bg, flash, inv, under, conc, tall, wide, cursor, roll, masks, bells, sl, waits, row0, col0, wr⟩ ⟨hsl, hr0, hr1, hc0, hc1, hq0, hq1, hd0, hd1⟩ R C (40 - C) 39 (by omega) (by omega) (by omega) (by omega)
  have cRk : ((sWipe ⟨(R : Int), (C : Int), fg, bg, flash, inv, under, conc, tall, wide, cursor, roll, masks, bells, sl, waits, row0, col0, wr⟩ R C (40 - C)) : Scr).Ok := Scr.Ok.wipe (s := ⟨(R : Int), (C : Int), fg, bg, flash, inv, under, conc, tall, wide, cursor, roll, masks, bells, sl, waits, row0, col0, wr⟩) ⟨hsl, hr0, hr1, hc0, hc1, hq0, hq1, hd0, hd1⟩ (by omega) (by omega)
  have cRs := cRk.sl
  have cRF := slF cRs
  have cRP := Slot.pl ((sWipe ⟨(R : Int), (C : Int), fg, bg, flash, inv, under, conc, tall, wide, cursor, roll, masks, bells, sl, waits, row0, col0, wr⟩ R C (40 - C)) : Scr).sl
  simp only [Scr.enc, sWipe] at cR cRs cRF cRP
  have rT := slR hsl cRs
  (have fA := aI @hF (aI @hP (aI @cRF (aI @cRP @rT))); have c1 := fun x1 => cR x1; refine gox ?_; clear fA c1)
  (have fA := aI @hF (aI @hP (aI @cRF (aI @cRP @rT))); refine finx ?_; clear fA; try with_reducible rfl)
  all_goals first | rfl | (simp []; done)
 rw [if_neg q2]
 (have fA := aI @hF @hP; refine gox ?_; clear fA)
 (have fA := aI @hF @hP; refine finx ?_; clear fA; try with_reducible rfl)
 all_goals first | rfl | (simp []; done)
theorem t_waiting (tag : Nat) (s : Scr) (hs : s.Ok) (a : Int) (ha : 80 ≤ a) (ha2 : a ≤ 95) : callω L T 239 tag [.ref 0 (tag, 0) 0, .int .i64 a] [some s.enc, none] = some (.tup [], [some (sWait s a).enc, none]) := by
 obtain ⟨row, col, fg, bg, flash, inv, under, conc, tall, wide, cursor, roll, masks, bells, sl, waits, row0, col0, wr⟩ := s
 obtain ⟨hsl, hr0, hr1, hc0, hc1, hq0, hq1, hd0, hd1⟩ := hs
 simp only at hsl hr0 hr1 hc0 hc1 hq0 hq1 hd0 hd1
 have hF := slF hsl
 have hP := Slot.pl sl
 simp only [Scr.enc]
 rw [za5 (show T 239 = some (.code a239) from rfl) rfl rfl]
 unfold sWait
 by_cases q88 : a = 88
 ·subst q88
  (have fA := aI @hF @hP; refine gox ?_; clear fA)
  (have fA := aI @hF @hP; refine finx ?_; clear fA; try with_reducible rfl)
  all_goals first | rfl | (simp []; done)
 by_cases q95 : a = 95
 ·subst q95
  (have fA := aI @hF @hP; refine gox ?_; clear fA)
  (have fA := aI @hF @hP; refine finx ?_; clear fA; try with_reducible rfl)
  all_goals first | rfl | (simp []; done)
 by_cases q90 : a = 90
 ·subst q90
  (have fA := aI @hF @hP; refine gox ?_; clear fA)
  (have fA := aI @hF @hP; refine finx ?_; clear fA; try with_reducible rfl)
  all_goals first | rfl | (simp []; done)
 by_cases q89 : a = 89
 ·subst q89
  (have fA := aI @hF @hP; refine gox ?_; clear fA)
  (have fA := aI @hF @hP; refine finx ?_; clear fA; try with_reducible rfl)
  all_goals first | rfl | (simp []; done)
 rw [if_neg (by omega), if_neg (by omega)]
 have w : IntKind.i64.wrap (a - 80) = a - 80 := w_i64 (by omega) (by omega)
 (have fA := aI @hF @hP; refine gox ?_; clear fA)
 (have fA := aI @hF @hP; refine finx ?_; clear fA; try with_reducible rfl)
 all_goals first | rfl | (simp [w]; done)
theorem t_attr (tag : Nat) (s : Scr) (hs : s.Ok) (a : Int) : callω L T 190 tag [.ref 0 (tag, 0) 0, .int .i64 a] [some s.enc, none] = some (.tup [], [some (sAttr s a).enc, none]) := by
 obtain ⟨row, col, fg, bg, flash, inv, under, conc, tall, wide, cursor, roll, masks, bells, sl, waits, row0, col0, wr⟩ := s
 obtain ⟨hsl, hr0, hr1, hc0, hc1, hq0, hq1, hd0, hd1⟩ := hs
 simp only at hsl hr0 hr1 hc0 hc1 hq0 hq1 hd0 hd1
 have hF := slF hsl
 have hP := Slot.pl sl
 simp only [Scr.enc]
 rw [za5 (show T 190 = some (.code a190) from rfl) rfl rfl]
 by_cases q1 : 64 ≤ a ∧ a < 72
 ·have e : sAttr ⟨row, col, fg, bg, flash, inv, under, conc, tall, wide, cursor, roll, masks, bells, sl, waits, row0, col0, wr⟩ a = ⟨row, col, (a - 64), bg, flash, inv, under, conc, tall, wide, cursor, roll, masks, bells, sl, waits, row0, col0, wr⟩ := by unfold sAttr; rw [if_pos q1]
  rw [e]
  obtain ⟨q1, q2⟩ := q1
  have w : IntKind.i64.wrap (a - 64) = a - 64 := w_i64 (by omega) (by omega)
  (have fA := aI @hF @hP; refine gox ?_; clear fA)
  (have fA := aI @hF @hP; refine finx ?_; clear fA; try with_reducible rfl)
  all_goals first | rfl | (simp [w]; done)
 by_cases qw : (80 ≤ a ∧ a < 88) ∨ a = 88 ∨ a = 95 ∨ a = 90 ∨ a = 89
 ·have e : sAttr ⟨row, col, fg, bg, flash, inv, under, conc, tall, wide, cursor, roll, masks, bells, sl, waits, row0, col0, wr⟩ a = sWait ⟨row, col, fg, bg, flash, inv, under, conc, tall, wide, cursor, roll, masks, bells, sl, waits, row0, col0, wr⟩ a := by unfold sAttr; rw [if_neg q1, if_pos qw]
  rw [e]
  have cR := fun tag => t_waiting tag ⟨row, col, fg, bg, flash, inv, under, conc, tall, wide, cursor, roll, masks, bells, sl, waits, row0, col0, wr⟩ ⟨hsl, hr0, hr1, hc0, hc1, hq0, hq1, hd0, hd1⟩ a (by omega) (by omega)
  have hk := Scr.Ok.wait (s := ⟨row, col, fg, bg, flash, inv, under, conc, tall, wide, cursor, roll, masks, bells, sl, waits, row0, col0, wr⟩) ⟨hsl, hr0, hr1, hc0, hc1, hq0, hq1, hd0, hd1⟩ a
  generalize sWait ⟨row, col, fg, bg, flash, inv, under, conc, tall, wide, cursor, roll, masks, bells, sl, waits, row0, col0, wr⟩ a = s2 at cR hk ⊢
  obtain ⟨row2, col2, fg2, bg2, flash2, inv2, under2, conc2, tall2, wide2, cursor2, roll2, masks2, bells2, sl2, waits2, row02, col02, wr2⟩ := s2
  have hsl2 := hk.sl
  simp only at hsl2
  have hF2 := slF hsl2
  have hP2 := Slot.pl sl2
  have rT := slR hsl hsl2
  simp only [Scr.enc] at cR ⊢
  rcases qw with ⟨qa, qb⟩ | rfl | rfl | rfl | rfl
  ·(have fA := aI @hF (aI @hP (aI @hF2 (aI @hP2 @rT))); have c1 := fun x1 => cR x1; refine gox ?_; clear fA c1)
   (have fA := aI @hF (aI @hP (aI @hF2 (aI @hP2 @rT))); refine finx ?_; clear fA; try with_reducible rfl)
   all_goals first | rfl | (simp []; done)
  ·(have fA := aI @hF (aI @hP (aI @hF2 (aI @hP2 @rT))); have c1 := fun x1 => cR x1; refine gox ?_; clear fA c1)
   (have fA := aI @hF (aI @hP (aI @hF2 (aI @hP2 @rT))); refine finx ?_; clear fA; try with_reducible rfl)
   all_goals first | rfl | (simp []; done)
  ·(have fA := aI @hF (aI @hP (aI @hF2 (aI @hP2 @rT))); have c1 := fun x1 => cR x1; refine gox ?_; clear fA c1)
   (have fA := aI @hF (aI @hP (aI @hF2 (aI @hP2 @rT))); refine finx ?_; clear fA; try with_reducible rfl)
   all_goals first | rfl | (simp []; done)
  ·(have fA := aI @hF (aI @hP (aI @hF2 (aI @hP2 @rT))); have c1 := fun x1 => cR x1; refine gox ?_; clear fA c1)
   (have fA := aI @hF (aI @hP (aI @hF2 (aI @hP2 @rT))); refine finx ?_; clear fA; try with_reducible rfl)
   all_goals first | rfl | (simp []; done)
  ·(have fA := aI @hF (aI @hP (aI @hF2 (aI @hP2 @rT))); have c1 := fun x1 => cR x1; refine gox ?_; clear fA c1)
   (have fA := aI @hF (aI @hP (aI @hF2 (aI @hP2 @rT))); refine finx ?_; clear fA; try with_reducible rfl)
   all_goals first | rfl | (simp []; done)
 by_cases q72 : a = 72
 ·subst q72
  have e : sAttr ⟨row, col, fg, bg, flash, inv, under, conc, tall, wide, cursor, roll, masks, bells, sl, waits, row0, col0, wr⟩ 72 = ⟨row, col, fg, bg, true, inv, under, conc, tall, wide, cursor, roll, masks, bells, sl, waits, row0, col0, wr⟩ := rfl
  rw [e]
  (have fA := aI @hF @hP; refine gox ?_; clear fA)
  (have fA := aI @hF @hP; refine finx ?_; clear fA; try with_reducible rfl)
  all_goals first | rfl | (simp []; done)
 by_cases q73 : a = 73
 ·subst q73
  have e : sAttr ⟨row, col, fg, bg, flash, inv, under, conc, tall, wide, cursor, roll, masks, bells, sl, waits, row0, col0, wr⟩ 73 = ⟨row, col, fg, bg, false, inv, under, conc, tall, wide, cursor, roll, masks, bells, sl, waits, row0, col0, wr⟩ := rfl
  rw [e]
  (have fA := aI @hF @hP; refine gox ?_; clear fA)
  (have fA := aI @hF @hP; refine finx ?_; clear fA; try with_reducible rfl)
  all_goals first | rfl | (simp []; done)
 by_cases q76 : a = 76
 ·subst q76
  have e : sAttr ⟨row, col, fg, bg, flash, inv, under, conc, tall, wide, cursor, roll, masks, bells, sl, waits, row0, col0, wr⟩ 76 = ⟨row, col, fg, bg, flash, inv, under, conc, false, false, cursor, roll, masks, bells, sl, waits, row0, col0, wr⟩ := rfl
  rw [e]
  have cR := fun tag => zm5 tag ⟨row, col, fg, bg, flash, inv, under, conc, tall, wide, cursor, roll, masks, bells, sl, waits, row0, col0, wr⟩ ⟨hsl, hr0, hr1, hc0, hc1, hq0, hq1, hd0, hd1⟩ false false
  have cRk : ((⟨row, col, fg, bg, flash, inv, under, conc, false, false, cursor, roll, masks, bells, sl, waits, row0, col0, wr⟩) : Scr).Ok := ⟨hsl, hr0, hr1, hc0, hc1, hq0, hq1, hd0, hd1⟩
  have cRs := cRk.sl
  have cRF := slF cRs
  have cRP := Slot.pl ((⟨row, col, fg, bg, flash, inv, under, conc, false, false, cursor, roll, masks, bells, sl, waits, row0, col0, wr⟩) : Scr).sl
  simp only [Scr.enc] at cR cRs cRF cRP
  have rT := slR hsl hsl
  (have fA := aI @hF (aI @hP @rT); have c1 := fun x1 => cR x1; refine gox ?_; clear fA c1)
  (have fA := aI @hF (aI @hP @rT); refine finx ?_; clear fA; try with_reducible rfl)
  all_goals first | rfl | (simp []; done)
 by_cases q77 : a = 77
 ·subst q77
  have e : sAttr ⟨row, col, fg, bg, flash, inv, under, conc, tall, wide, cursor, roll, masks, bells, sl, waits, row0, col0, wr⟩ 77 = ⟨row, col, fg, bg, flash, inv, under, conc, true, false, cursor, roll, masks, bells, sl, waits, row0, col0, wr⟩ := rfl
  rw [e]
  have cR := fun tag => zm5 tag ⟨row, col, fg, bg, flash, inv, under, conc, tall, wide, cursor, roll, masks, bells, sl, waits, row0, col0, wr⟩ ⟨hsl, hr0, hr1, hc0, hc1, hq0, hq1, hd0, hd1⟩ true false
  have cRk : ((⟨row, col, fg, bg, flash, inv, under, conc, true, false, cursor, roll, masks, bells, sl, waits, row0, col0, wr⟩) : Scr).Ok := ⟨hsl, hr0, hr1, hc0, hc1, hq0, hq1, hd0, hd1⟩
  have cRs := cRk.sl
  have cRF := slF cRs
  have cRP := Slot.pl ((⟨row, col, fg, bg, flash, inv, under, conc, true, false, cursor, roll, masks, bells, sl, waits, row0, col0, wr⟩) : Scr).sl
  simp only [Scr.enc] at cR cRs cRF cRP
  have rT := slR hsl hsl
  (have fA := aI @hF (aI @hP @rT); have c1 := fun x1 => cR x1; refine gox ?_; clear fA c1)
  (have fA := aI @hF (aI @hP @rT); refine finx ?_; clear fA; try with_reducible rfl)
  all_goals first | rfl | (simp []; done)
 by_cases q78 : a = 78
 ·subst q78
  have e : sAttr ⟨row, col, fg, bg, flash, inv, under, conc, tall, wide, cursor, roll, masks, bells, sl, waits, row0, col0, wr⟩ 78 = ⟨row, col, fg, bg, flash, inv, under, conc, false, true, cursor, roll, masks, bells, sl, waits, row0, col0, wr⟩ := rfl
  rw [e]
  have cR := fun tag => zm5 tag ⟨row, col, fg, bg, flash, inv, under, conc, tall, wide, cursor, roll, masks, bells, sl, waits, row0, col0, wr⟩ ⟨hsl, hr0, hr1, hc0, hc1, hq0, hq1, hd0, hd1⟩ false true
  have cRk : ((⟨row, col, fg, bg, flash, inv, under, conc, false, true, cursor, roll, masks, bells, sl, waits, row0, col0, wr⟩) : Scr).Ok := ⟨hsl, hr0, hr1, hc0, hc1, hq0, hq1, hd0, hd1⟩
  have cRs := cRk.sl
  have cRF := slF cRs
  have cRP := Slot.pl ((⟨row, col, fg, bg, flash, inv, under, conc, false, true, cursor, roll, masks, bells, sl, waits, row0, col0, wr⟩) : Scr).sl
  simp only [Scr.enc] at cR cRs cRF cRP
  have rT := slR hsl hsl
  (have fA := aI @hF (aI @hP @rT); have c1 := fun x1 => cR x1; refine gox ?_; clear fA c1)
  (have fA := aI @hF (aI @hP @rT); refine finx ?_; clear fA; try with_reducible rfl)
  all_goals first | rfl | (simp []; done)
 by_cases q79 : a = 79
 ·subst q79
  have e : sAttr ⟨row, col, fg, bg, flash, inv, under, conc, tall, wide, cursor, roll, masks, bells, sl, waits, row0, col0, wr⟩ 79 = ⟨row, col, fg, bg, flash, inv, under, conc, true, true, cursor, roll, masks, bells, sl, waits, row0, col0, wr⟩ := rfl
  rw [e]
  have cR := fun tag => zm5 tag ⟨row, col, fg, bg, flash, inv, under, conc, tall, wide, cursor, roll, masks, bells, sl, waits, row0, col0, wr⟩ ⟨hsl, hr0, hr1, hc0, hc1, hq0, hq1, hd0, hd1⟩ true true
  have cRk : ((⟨row, col, fg, bg, flash, inv, under, conc, true, true, cursor, roll, masks, bells, sl, waits, row0, col0, wr⟩) : Scr).Ok := ⟨hsl, hr0, hr1, hc0, hc1, hq0, hq1, hd0, hd1⟩
  have cRs := cRk.sl
  have cRF := slF cRs
  have cRP := Slot.pl ((⟨row, col, fg, bg, flash, inv, under, conc, true, true, cursor, roll, masks, bells, sl, waits, row0, col0, wr⟩) : Scr).sl
  simp only [Scr.enc] at cR cRs cRF cRP
  have rT := slR hsl hsl
  (have fA := aI @hF (aI @hP @rT); have c1 := fun x1 => cR x1; refine gox ?_; clear fA c1)
  (have fA := aI @hF (aI @hP @rT); refine finx ?_; clear fA; try with_reducible rfl)
  all_goals first | rfl | (simp []; done)
 by_cases q93 : a = 93
 ·subst q93
  have e : sAttr ⟨row, col, fg, bg, flash, inv, under, conc, tall, wide, cursor, roll, masks, bells, sl, waits, row0, col0, wr⟩ 93 = ⟨row, col, fg, bg, flash, true, under, conc, tall, wide, cursor, roll, masks, bells, sl, waits, row0, col0, wr⟩ := rfl
  rw [e]
  (have fA := aI @hF @hP; refine gox ?_; clear fA)
  (have fA := aI @hF @hP; refine finx ?_; clear fA; try with_reducible rfl)
  all_goals first | rfl | (simp []; done)
 by_cases q92 : a = 92
 ·subst q92
  have e : sAttr ⟨row, col, fg, bg, flash, inv, under, conc, tall, wide, cursor, roll, masks, bells, sl, waits, row0, col0, wr⟩ 92 = ⟨row, col, fg, bg, flash, false, under, conc, tall, wide, cursor, roll, masks, bells, sl, waits, row0, col0, wr⟩ := rfl
  rw [e]
  (have fA := aI @hF @hP; refine gox ?_; clear fA)
  (have fA := aI @hF @hP; refine finx ?_; clear fA; try with_reducible rfl)
  all_goals first | rfl | (simp []; done)
 have e : sAttr ⟨row, col, fg, bg, flash, inv, under, conc, tall, wide, cursor, roll, masks, bells, sl, waits, row0, col0, wr⟩ a = ⟨row, col, fg, bg, flash, inv, under, conc, tall, wide, cursor, roll, masks, bells, sl, waits, row0, col0, wr⟩ := by unfold sAttr; rw [if_neg q1, if_neg qw, if_neg (by omega), if_neg (by omega), if_neg (by omega)]
 rw [e]
 have n88 : ¬ a = 88 := fun e => qw (.inr (.inl e))
 have n95 : ¬ a = 95 := fun e => qw (.inr (.inr (.inl e)))
 have n90 : ¬ a = 90 := fun e => qw (.inr (.inr (.inr (.inl e))))
 have n89 : ¬ a = 89 := fun e => qw (.inr (.inr (.inr (.inr e))))
 by_cases h64 : 64 ≤ a
 ·have h72 : ¬ a < 72 := fun e => q1 ⟨h64, e⟩
  by_cases h80 : 80 ≤ a
  ·have h88 : ¬ a < 88 := fun e => qw (.inl ⟨h80, e⟩)
   (have fA := aI @hF @hP; refine gox ?_; clear fA)
   (have fA := aI @hF @hP; refine finx ?_; clear fA; try with_reducible rfl)
   all_goals first | rfl | (simp []; done)
  ·(have fA := aI @hF @hP; refine gox ?_; clear fA)
   (have fA := aI @hF @hP; refine finx ?_; clear fA; try with_reducible rfl)
   all_goals first | rfl | (simp []; done)
 ·have h80 : ¬ 80 ≤ a := by omega
  (have fA := aI @hF @hP; refine gox ?_; clear fA)
  (have fA := aI @hF @hP; refine finx ?_; clear fA; try with_reducible rfl)
  all_goals first | rfl | (simp []; done)
end
section
attribute [local simp] Ev.flen Ev.rd Ev.enc Slot.flen Slot.rd Slot.pute Slot.zero Slot.enc
theorem zam {s : Scr} (h : s.Ok) : s.enc.length = 10024 := by
 have := sl_len h.sl
 simp [Scr.enc, this]
theorem enc_pl {s : Scr} (_h : s.Ok) : s.enc.all AV.plain = true := by
 have := Slot.pl s.sl
 simp [-List.all_eq_true, Scr.enc, this, List.all_cons, List.all_append]
theorem zbv {s : Scr} (h : s.Ok) : List.take 10024 s.enc = s.enc := List.take_of_length_le (by rw [zam h]; exact Nat.le_refl _)
theorem zb2 {s s' : Scr} (h : s.Ok) (h' : s'.Ok) : setR s.enc 0 s'.enc = s'.enc := zbn (by rw [zam h, zam h'])
def sMove1 (how : Int) (s : Scr) : Scr := if how = 1 then sBack s else if how = 2 then sOn s else if how = 3 then sDown s else if how = 4 then sUp s else s
def rep (f : Scr → Scr) : Nat → Scr → Scr
 | 0, s => s
 | n + 1, s => rep f n (f s)
def cl99 (m : Int) : Int := if 99 < (if 1 > m then 1 else m) then 99 else (if 1 > m then 1 else m)
def sMove (s : Scr) (how many : Int) : Scr := if how = 5 then { s with col := 0 } else rep (sMove1 how) (cl99 many).toNat s
theorem cl99_rng (m : Int) : 1 ≤ cl99 m ∧ cl99 m ≤ 99 := by
 unfold cl99
 repeat' split
 all_goals omega
theorem Scr.Ok.move1 {s : Scr} (h : s.Ok) (how : Int) : (sMove1 how s).Ok := by
 unfold sMove1
 split
 ·exact h.back
 split
 ·exact h.on
 split
 ·exact h.down
 split
 ·exact h.up
 ·exact h
theorem Scr.Ok.rep {f : Scr → Scr} (hf : ∀ s, s.Ok → (f s).Ok) : ∀ (n : Nat) {s : Scr}, s.Ok → (rep f n s).Ok
 | 0, _, h => h
 | n + 1, _, h => Scr.Ok.rep hf n (hf _ h)
theorem Scr.Ok.move {s : Scr} (h : s.Ok) (how many : Int) : (sMove s how many).Ok := by
 unfold sMove
 split
 ·exact ⟨h.sl, h.r0, h.r1, by simp, by simp, h.q0, h.q1, h.d0, h.d1⟩
 ·exact Scr.Ok.rep (fun s hs => hs.move1 how) _ h
theorem t_move (tag : Nat) (s : Scr) (hs : s.Ok) (how many : Int) : callω L T 186 tag [.ref 0 (tag, 0) 0, .int .i64 how, .int .i64 many] [some s.enc, none, none] = some (.tup [], [some (sMove s how many).enc, none, none]) := by
 by_cases q5 : how = 5
 ·subst q5
  unfold sMove
  rw [if_pos rfl]
  obtain ⟨row, col, fg, bg, flash, inv, under, conc, tall, wide, cursor, roll, masks, bells, sl, waits, row0, col0, wr⟩ := s
  obtain ⟨hsl, hr0, hr1, hc0, hc1, hq0, hq1, hd0, hd1⟩ := hs
  simp only at hsl hr0 hr1 hc0 hc1 hq0 hq1 hd0 hd1
  have hF := slF hsl
  have hP := Slot.pl sl
  simp only [Scr.enc]
  rw [za5 (show T 186 = some (.code a186) from rfl) rfl rfl]
  (have fA := aI @hF @hP; refine gox ?_; clear fA)
  (have fA := aI @hF @hP; refine finx ?_; clear fA; try with_reducible rfl)
  all_goals first | rfl | (simp []; done)
 unfold sMove
 rw [if_neg q5]
 have hcl := cl99_rng many
 obtain ⟨n, hn⟩ : ∃ n : Nat, cl99 many = n := ⟨(cl99 many).toNat, by omega⟩
 rw [hn, Int.toNat_natCast]
 have hn1 : n ≤ 99 := by omega
 obtain ⟨s0, e0⟩ : ∃ s0, s0 = s := ⟨s, rfl⟩
 obtain ⟨row, col, fg, bg, flash, inv, under, conc, tall, wide, cursor, roll, masks, bells, sl, waits, row0, col0, wr⟩ := s
 obtain ⟨hsl, hr0, hr1, hc0, hc1, hq0, hq1, hd0, hd1⟩ := hs
 simp only at hsl hr0 hr1 hc0 hc1 hq0 hq1 hd0 hd1
 have hF := slF hsl
 have hP := Slot.pl sl
 have es : ⟨row, col, fg, bg, flash, inv, under, conc, tall, wide, cursor, roll, masks, bells, sl, waits, row0, col0, wr⟩ = s0 := e0.symm
 rw [es]
 simp only [Scr.enc]
 rw [za5 (show T 186 = some (.code a186) from rfl) rfl rfl]
 (have fA := aI @hF @hP; refine gox ?_; clear fA)
 refine Eq.trans (zaa (env' := [(0, .ref 0 (tag, 0) 0), (1, .int .i64 how), (14, .int .i64 (n : Nat)), (15, .int .i64 0)]) (by rw [← hn]; rfl) rfl rfl) ?_
 refine Eq.trans (znh (X := Scr) (fun _ s => s.Ok) (fun k s => ⟨[(0, .ref 0 (tag, 0) 0), (1, .int .i64 how), (14, .int .i64 (n : Nat)), (15, .int .i64 (k : Nat))], [(0, ⟨(tag, 0), s.enc⟩)], 1, tag⟩) n
  (fun k s => some (.tup [], [some (rep (sMove1 how) (n - k) s).enc, none, none])) ?_ ?_ 0 (by omega) s0 (by rw [e0]; exact ⟨hsl, hr0, hr1, hc0, hc1, hq0, hq1, hd0, hd1⟩)) ?_
 ·intro k x hk hx ih
  have ih := ih (sMove1 how x) (hx.move1 how)
  rw [show n - k = (n - (k + 1)) + 1 from by omega]
  show _ = some (AV.tup [], [some (rep (sMove1 how) (n - (k + 1)) (sMove1 how x)).enc, none, none])
  have hk' : (k : Int) < (n : Int) := by omega
  have hw : IntKind.i64.wrap ((k : Int) + 1) = ((k + 1 : Nat) : Int) := zah hk (by omega)
  by_cases q1 : how = 1
  ·subst q1
   have e : sMove1 1 x = sBack x := rfl
   rw [e] at ih ⊢
   have cR := fun tag => t_back tag x hx
   have l1 := zam hx
   have l2 := zam hx.back
   have r1 := zbv hx
   have r2 := zb2 hx hx.back
   generalize x.enc = X at *
   generalize sBack x = y at *
   refine Eq.trans ?_ ih
   (have fA := aI @hw (aI @l1 (aI @l2 (aI @r1 @r2))); have c1 := fun x1 => cR x1; refine gox ?_; clear fA c1)
   refine zaa ?_ rfl rfl
   rw [hw]
  by_cases q2 : how = 2
  ·subst q2
   have e : sMove1 2 x = sOn x := rfl
   rw [e] at ih ⊢
   have cR := fun tag => t_on tag x hx
   have l1 := zam hx
   have l2 := zam hx.on
   have r1 := zbv hx
   have r2 := zb2 hx hx.on
   generalize x.enc = X at *
   generalize sOn x = y at *
   refine Eq.trans ?_ ih
   (have fA := aI @hw (aI @l1 (aI @l2 (aI @r1 @r2))); have c1 := fun x1 => cR x1; refine gox ?_; clear fA c1)
   refine zaa ?_ rfl rfl
   rw [hw]
  by_cases q3 : how = 3
  ·subst q3
   have e : sMove1 3 x = sDown x := rfl
   rw [e] at ih ⊢
   have cR := fun tag => t_down tag x hx
   have l1 := zam hx
   have l2 := zam hx.down
   have r1 := zbv hx
   have r2 := zb2 hx hx.down
   generalize x.enc = X at *
   generalize sDown x = y at *
   refine Eq.trans ?_ ih
   (have fA := aI @hw (aI @l1 (aI @l2 (aI @r1 @r2))); have c1 := fun x1 => cR x1; refine gox ?_; clear fA c1)
   refine zaa ?_ rfl rfl
   rw [hw]
  by_cases q4 : how = 4
  ·subst q4
   have e : sMove1 4 x = sUp x := rfl
   rw [e] at ih ⊢
   have cR := fun tag => t_up tag x hx
   have l1 := zam hx
   have l2 := zam hx.up
   have r1 := zbv hx
   have r2 := zb2 hx hx.up
   generalize x.enc = X at *
   generalize sUp x = y at *
   refine Eq.trans ?_ ih
   (have fA := aI @hw (aI @l1 (aI @l2 (aI @r1 @r2))); have c1 := fun x1 => cR x1; refine gox ?_; clear fA c1)
   refine zaa ?_ rfl rfl
   rw [hw]
  have e : sMove1 how x = x := by unfold sMove1; rw [if_neg q1, if_neg q2, if_neg q3, if_neg q4]
  rw [e] at ih ⊢
  refine Eq.trans ?_ ih
  (have fA := @hw; refine gox ?_; clear fA)
  refine zaa ?_ rfl rfl
  rw [hw]
 ·intro x hx
  rw [Nat.sub_self]
  have l1 := zam hx
  have p1 := enc_pl hx
  show _ = some (AV.tup [], [some x.enc, none, none])
  generalize x.enc = X at *
  have hF0 : (flat Slot.enc s0.sl).length = 10000 := by rw [e0]; exact hF.1
  (have fA := @l1; refine gox ?_; clear fA)
  (have fA := aI @hF0 (aI @l1 @p1); refine finx ?_; clear fA; try with_reducible rfl)
  try rfl
 ·rw [e0]; rfl
end
section
structure Pr where
 c : Int
 glyph : Int
 deriving DecidableEq
def Pr.enc (s : Pr) : List AV := [.int .u8 s.c, .int .i64 s.glyph]
theorem Pr.len (s : Pr) : s.enc.length = 2 := rfl
theorem Pr.flen (xs : List Pr) : (flat Pr.enc xs).length = xs.length * 2 := zhk Pr.len xs
theorem Pr.rd {xs : List Pr} {i : Nat} (h : i < xs.length) : ((flat Pr.enc xs).drop (i * 2)).take 2 = [.int .u8 xs[i].c, .int .i64 xs[i].glyph] := flt_rd Pr.len h
attribute [local simp] Pr.flen Pr.rd Pr.enc
def plainI (c : Int) : Int := if c % 128 < 32 then 32 else if c % 128 = 127 then 9632 else c % 128
def prAV (l : List Pr) : AV := .fsl 2 l.length (flat Pr.enc l)
def moreL (m : Int) : List Pr :=
 if m = 8 then [⟨65, 196⟩, ⟨69, 203⟩, ⟨73, 207⟩, ⟨79, 214⟩, ⟨85, 220⟩, ⟨97, 228⟩, ⟨101, 235⟩, ⟨105, 239⟩, ⟨111, 246⟩, ⟨117, 252⟩, ⟨121, 255⟩]
 else if m = 10 then [⟨65, 197⟩, ⟨85, 366⟩, ⟨97, 229⟩, ⟨117, 367⟩]
 else if m = 11 then [⟨67, 199⟩, ⟨83, 350⟩, ⟨84, 354⟩, ⟨99, 231⟩, ⟨115, 351⟩, ⟨116, 355⟩]
 else if m = 13 then [⟨79, 336⟩, ⟨85, 368⟩, ⟨111, 337⟩, ⟨117, 369⟩]
 else if m = 14 then [⟨65, 260⟩, ⟨69, 280⟩, ⟨97, 261⟩, ⟨101, 281⟩]
 else if m = 15 then [⟨67, 268⟩, ⟨69, 282⟩, ⟨82, 344⟩, ⟨83, 352⟩, ⟨90, 381⟩, ⟨99, 269⟩, ⟨101, 283⟩, ⟨114, 345⟩, ⟨115, 353⟩, ⟨122, 382⟩]
 else []
def pairsL (m : Int) : List Pr :=
 if m = 1 then [⟨65, 192⟩, ⟨69, 200⟩, ⟨73, 204⟩, ⟨79, 210⟩, ⟨85, 217⟩, ⟨97, 224⟩, ⟨101, 232⟩, ⟨105, 236⟩, ⟨111, 242⟩, ⟨117, 249⟩]
 else if m = 2 then [⟨65, 193⟩, ⟨69, 201⟩, ⟨73, 205⟩, ⟨79, 211⟩, ⟨85, 218⟩, ⟨89, 221⟩, ⟨67, 262⟩, ⟨78, 323⟩, ⟨83, 346⟩, ⟨90, 377⟩, ⟨97, 225⟩, ⟨101, 233⟩, ⟨105, 237⟩, ⟨111, 243⟩, ⟨117, 250⟩, ⟨121, 253⟩, ⟨99, 263⟩, ⟨110, 324⟩, ⟨115, 347⟩, ⟨122, 378⟩]
 else if m = 3 then [⟨65, 194⟩, ⟨69, 202⟩, ⟨73, 206⟩, ⟨79, 212⟩, ⟨85, 219⟩, ⟨97, 226⟩, ⟨101, 234⟩, ⟨105, 238⟩, ⟨111, 244⟩, ⟨117, 251⟩]
 else if m = 4 then [⟨65, 195⟩, ⟨78, 209⟩, ⟨79, 213⟩, ⟨97, 227⟩, ⟨110, 241⟩, ⟨111, 245⟩]
 else if m = 6 then [⟨65, 258⟩, ⟨71, 286⟩, ⟨97, 259⟩, ⟨103, 287⟩]
 else if m = 7 then [⟨73, 304⟩, ⟨90, 379⟩, ⟨122, 380⟩]
 else moreL m
def find1 : List Pr → Int → Option Int
 | [], _ => none
 | p :: ps, c => if p.c = c then some p.glyph else find1 ps c
def joinI (m c : Int) : Int := if m < 0 ∨ 16 ≤ m then 0 else match find1 (pairsL m) (c % 128) with | some g => g | none => if c % 128 = 42 ∧ m = 0 then 64 else plainI c
theorem zdx (tag : Nat) (c : Int) (h0 : 0 ≤ c) (h1 : c < 256) : callω L T 288 tag [.int .u8 c] [none] = some (.int .i64 (plainI c), [none]) := by
 rw [za5 (show T 288 = some (.code a288) from rfl) rfl rfl]
 have e := and127 h0 h1
 have w : IntKind.i64.wrap (bAnd .u8 c 127) = c % 128 := by rw [e]; exact w_i64 (by omega) (by omega)
 by_cases h2 : c % 128 < 32
 ·(refine gox ?_)
  (refine finx ?_; try with_reducible rfl)
  unfold plainI; rw [if_pos h2]; rfl
 ·by_cases h3 : c % 128 = 127
  ·(refine gox ?_)
   (refine finx ?_; try with_reducible rfl)
   unfold plainI; rw [if_neg h2, if_pos h3]; rfl
  ·(refine gox ?_)
   (refine finx ?_; try with_reducible rfl)
   unfold plainI; rw [if_neg h2, if_neg h3, w]
theorem zld (tag : Nat) (m : Int) : callω L T 299 tag [.int .i64 m] [none] = some (prAV (moreL m), [none]) := by
 rw [za5 (show T 299 = some (.code a299) from rfl) rfl rfl]
 unfold moreL
 (refine gox ?_)
 iterate 6 ((first | refine zby (by apply Eq.refl) (by apply Eq.refl) (by intro κ'; apply Eq.refl) (by intro κ'; apply Eq.refl) (fun h => ?_) (fun h => ?_) | refine zc0 (fun h => ?_) (fun h => ?_) | refine zcg (fun h => ?_) (fun h => ?_)); (rw [if_pos h]; (refine gox ?_); (refine finx ?_; try with_reducible rfl); rfl); rw [if_neg h]; clear h; (refine gox ?_))
 (refine gox ?_)
 (refine finx ?_; try with_reducible rfl)
 rfl
theorem zk2 (tag : Nat) (m : Int) : callω L T 287 tag [.int .i64 m] [none] = some (prAV (pairsL m), [none]) := by
 rw [za5 (show T 287 = some (.code a287) from rfl) rfl rfl]
 unfold pairsL
 (refine gox ?_)
 iterate 6 ((first | refine zby (by apply Eq.refl) (by apply Eq.refl) (by intro κ'; apply Eq.refl) (by intro κ'; apply Eq.refl) (fun h => ?_) (fun h => ?_) | refine zc0 (fun h => ?_) (fun h => ?_) | refine zcg (fun h => ?_) (fun h => ?_)); (rw [if_pos h]; (refine gox ?_); (refine finx ?_; try with_reducible rfl); rfl); rw [if_neg h]; clear h; (refine gox ?_))
 (have c1 := fun x1 x2 => zld x1 x2; refine gox ?_; clear c1)
 (refine finx ?_; try with_reducible rfl)
 rfl
theorem zgj (tag : Nat) (m c : Int) (h0 : 0 ≤ c) (h1 : c < 256) : callω L T 261 tag [.int .i64 m, .int .u8 c] [none, none] = some (.int .i64 (joinI m c), [none, none]) := by
 rw [za5 (show T 261 = some (.code a261) from rfl) rfl rfl]
 have e := and127 h0 h1
 by_cases hm : m < 0
 ·have ej : joinI m c = 0 := if_pos (Or.inl hm)
  (refine gox ?_)
  (refine finx ?_; try with_reducible rfl)
  rw [ej]; rfl
 by_cases hm2 : 16 ≤ m
 ·have ej : joinI m c = 0 := if_pos (Or.inr hm2)
  (refine gox ?_)
  (refine finx ?_; try with_reducible rfl)
  rw [ej]; rfl
 have hm3 : ¬ (m < 0 ∨ 16 ≤ m) := by omega
 have ej : joinI m c = (match find1 (pairsL m) (c % 128) with | some g => g | none => if c % 128 = 42 ∧ m = 0 then 64 else plainI c) := if_neg hm3
 have hz : (pairsL m).length < 1000000 := by
  by_cases h : 0 ≤ m ∧ m < 16
  ·have : ∀ a : Nat, a < 16 → (pairsL a).length < 1000000 := by decide
   have := this m.toNat (by omega)
   rwa [show ((m.toNat : Nat) : Int) = m from by omega] at this
  ·omega
 (have c1 := fun x1 x2 => zk2 x1 x2; refine gox ?_; clear c1)
 rw [ej]
 generalize pairsL m = l at hz
 refine ze0 (fun k nx => ⟨[(0, .int .i64 m), (1, .int .u8 (bAnd .u8 c 127)), (16, prAV l), (17, .int .i64 l.length), (18, .int .i64 k)], [], nx, tag⟩) l (fun l => some (.int .i64 (match find1 l (c % 128) with | some g => g | none => if c % 128 = 42 ∧ m = 0 then 64 else plainI c), [none, none])) ?_ ?_ 1
 ·intro k nx hk ih
  by_cases hf : l[k].c = c % 128
  ·have ef : find1 (l[k] :: l.drop (k + 1)) (c % 128) = some l[k].glyph := if_pos hf
   rw [ef]
   (have fA := aI (zah hk (by omega)) @Pr.rd; refine gox ?_; clear fA)
   (refine finx ?_; try with_reducible rfl)
  ·have ef : find1 (l[k] :: l.drop (k + 1)) (c % 128) = find1 (l.drop (k + 1)) (c % 128) := if_neg hf
   rw [ef]
   refine Eq.trans ?_ (ih (nx + 1))
   (have fA := aI (zah hk (by omega)) @Pr.rd; refine gox ?_; clear fA)
   refine zaa ?_ rfl rfl
   simp [zah hk (by omega)]
 ·intro nx
  have tp := fun tag => zdx tag (bAnd .u8 c 127) (by omega) (by omega)
  have ep : plainI (bAnd .u8 c 127) = plainI c := by rw [e]; unfold plainI; simp
  (have c1 := fun x1 => tp x1; refine gox ?_; clear c1)
  (first | refine zby (by apply Eq.refl) (by apply Eq.refl) (by intro κ'; apply Eq.refl) (by intro κ'; apply Eq.refl) (fun h => ?_) (fun h => ?_) | refine zc0 (fun h => ?_) (fun h => ?_) | refine zcg (fun h => ?_) (fun h => ?_))
  ·replace h := of_decide_eq_true h
   (have c1 := fun x1 => tp x1; refine gox ?_; clear c1)
   (first | refine zby (by apply Eq.refl) (by apply Eq.refl) (by intro κ'; apply Eq.refl) (by intro κ'; apply Eq.refl) (fun h => ?_) (fun h => ?_) | refine zc0 (fun h => ?_) (fun h => ?_) | refine zcg (fun h => ?_) (fun h => ?_))
   ·(have c1 := fun x1 => tp x1; refine gox ?_; clear c1)
    (refine finx ?_; try with_reducible rfl)
    refine ans_eq (congrArg (AV.int .i64) ?_) rfl
    simp only [find1]
    rw [if_pos (by omega)]
   ·(have c1 := fun x1 => tp x1; refine gox ?_; clear c1)
    (refine finx ?_; try with_reducible rfl)
    rw [ep]
    refine ans_eq (congrArg (AV.int .i64) ?_) rfl
    simp only [find1]
    rw [if_neg (by omega)]
  ·replace h := of_decide_eq_false h
   (have c1 := fun x1 => tp x1; refine gox ?_; clear c1)
   (refine finx ?_; try with_reducible rfl)
   rw [ep]
   refine ans_eq (congrArg (AV.int .i64) ?_) rfl
   simp only [find1]
   rw [if_neg (by omega)]
end
section
attribute [local simp] Pr.flen Pr.rd Pr.enc
def mPlainI (c : Int) : Int := if c = 94 then 8593 else if c = 96 then 9472 else if c = 123 then 9615 else if c = 125 then 9621 else if c = 126 then 9620 else if c = 127 then 9632 else c
def specL : List Pr := [⟨35, 163⟩, ⟨36, 36⟩, ⟨38, 35⟩, ⟨39, 167⟩, ⟨44, 8592⟩, ⟨45, 8593⟩, ⟨46, 8594⟩, ⟨47, 8595⟩, ⟨48, 176⟩, ⟨49, 177⟩, ⟨56, 247⟩, ⟨60, 188⟩, ⟨61, 189⟩, ⟨62, 190⟩, ⟨106, 338⟩, ⟨122, 339⟩, ⟨123, 223⟩]
def specCs : List Int := specL.map Pr.c
def specGs : List Int := specL.map Pr.glyph
def specI (c : Int) : Int × Bool := match find1 specL (c % 128) with | some g => (g, true) | none => (0, false)
def mCharI (set c : Int) (parted : Bool) : Int :=
 if c % 128 < 32 then 32 else if set = 0 then mPlainI (c % 128) else if set = 1 then mGlyphI (frenchI (c % 128)) parted else if set = 2 then (if (specI (c % 128)).2 then (specI (c % 128)).1 else 9632) else 32
def accI (c : Int) : Int × Bool := if c % 128 = 65 ∨ c % 128 = 66 ∨ c % 128 = 67 ∨ c % 128 = 72 ∨ c % 128 = 75 then (c % 128 - 64, true) else (0, false)
def mJoinI (m c : Int) : Int := if (accI m).2 = true ∧ joinI (accI m).1 c ≠ plainI c then joinI (accI m).1 c else mCharI 0 c false
theorem zo2 (tag : Nat) (c : Int) (h0 : 0 ≤ c) (h1 : c < 256) : callω L T 307 tag [.int .u8 c] [none] = some (.int .i64 (mPlainI c), [none]) := by
 rw [za5 (show T 307 = some (.code a307) from rfl) rfl rfl]
 unfold mPlainI
 have w : IntKind.i64.wrap c = c := w_i64 (by omega) (by omega)
 (refine gox ?_)
 iterate 6 ((first | refine zby (by apply Eq.refl) (by apply Eq.refl) (by intro κ'; apply Eq.refl) (by intro κ'; apply Eq.refl) (fun h => ?_) (fun h => ?_) | refine zc0 (fun h => ?_) (fun h => ?_) | refine zcg (fun h => ?_) (fun h => ?_)); (rw [if_pos h]; (refine gox ?_); (refine finx ?_; try with_reducible rfl); rfl); rw [if_neg h]; clear h; (refine gox ?_))
 (refine finx ?_; try with_reducible rfl)
 rw [w]
theorem zjt (tag : Nat) (c : Int) (h0 : 0 ≤ c) (h1 : c < 256) : callω L T 308 tag [.int .u8 c] [none] = some (.tup [.int .i64 (specI c).1, .bool (specI c).2], [none]) := by
 rw [za5 (show T 308 = some (.code a308) from rfl) rfl rfl]
 have e := and127 h0 h1
 (refine gox ?_)
 refine ze0 (fun k nx => ⟨[(0, .int .u8 c), (5, .msl 9 (tag, 1 + 1) 1 0 17), (10, .msl 8 (tag, 1) 1 0 17), (11, .int .i64 (17 : Nat)), (12, .int .i64 k)], [(8, ⟨(tag, 1), specCs.map (.int .u8)⟩), (9, ⟨(tag, 1 + 1), specGs.map (.int .i64)⟩)], nx, tag⟩) specL (fun l => some (.tup [.int .i64 (match find1 l (c % 128) with | some g => (g, true) | none => (0, false)).1, .bool (match find1 l (c % 128) with | some g => (g, true) | none => (0, false)).2], [none])) ?_ ?_ _
 ·intro k nx hk ih
  have n1 : specCs.length = 17 := rfl
  have n2 : specGs.length = 17 := rfl
  have q1 : k < specCs.length := hk
  have q2 : k < specGs.length := hk
  have g1 : specCs[k]'q1 = (specL[k]'hk).c := by
   have : specCs[k]? = some (specL[k]'hk).c := by simp [specCs, hk]
   rw [List.getElem?_eq_getElem q1] at this
   exact Option.some.inj this
  have g2 : specGs[k]'q2 = (specL[k]'hk).glyph := by
   have : specGs[k]? = some (specL[k]'hk).glyph := by simp [specGs, hk]
   rw [List.getElem?_eq_getElem q2] at this
   exact Option.some.inj this
  have hk17 : k < 17 := hk
  by_cases hf : (specL[k]'hk).c = c % 128
  ·have ef : find1 ((specL[k]'hk) :: specL.drop (k + 1)) (c % 128) = some (specL[k]'hk).glyph := if_pos hf
   rw [ef]
   (have fA := aI @n1 (aI @n2 (aI @g1 @g2)); refine gox ?_; clear fA)
   (refine finx ?_; try with_reducible rfl)
   rw [g2]; rfl
  ·have ef : find1 ((specL[k]'hk) :: specL.drop (k + 1)) (c % 128) = find1 (specL.drop (k + 1)) (c % 128) := if_neg hf
   rw [ef]
   refine Eq.trans ?_ (ih nx)
   (have fA := aI @n1 (aI @n2 (aI @g1 @g2)); refine gox ?_; clear fA)
   refine zaa ?_ rfl rfl
   simp [zah (show k < 17 from hk) (by omega)]
 ·intro nx
  have n1 : specL.length = 17 := rfl
  (have fA := @n1; refine gox ?_; clear fA)
  (refine finx ?_; try with_reducible rfl)
  try rfl
theorem zdv (tag : Nat) (c : Int) (h0 : 0 ≤ c) (h1 : c < 256) : callω L T 306 tag [.int .u8 c] [none] = some (.tup [.int .i64 (accI c).1, .bool (accI c).2], [none]) := by
 rw [za5 (show T 306 = some (.code a306) from rfl) rfl rfl]
 have e := and127 h0 h1
 have hr : ∀ c : Nat, c < 256 → ((bAnd .u8 c 127 = 65 ∨ bAnd .u8 c 127 = 66 ∨ bAnd .u8 c 127 = 67 ∨ bAnd .u8 c 127 = 72 ∨ bAnd .u8 c 127 = 75) → IntKind.i64.wrap (bAnd .u8 (bAnd .u8 c 127) 15) = (accI c).1 ∧ true = (accI c).2) ∧ (¬ (bAnd .u8 c 127 = 65 ∨ bAnd .u8 c 127 = 66 ∨ bAnd .u8 c 127 = 67 ∨ bAnd .u8 c 127 = 72 ∨ bAnd .u8 c 127 = 75) → accI c = (0, false)) := by decide +kernel
 have hr := hr c.toNat (by omega)
 rw [show ((c.toNat : Nat) : Int) = c from by omega] at hr
 by_cases hin : bAnd .u8 c 127 = 65 ∨ bAnd .u8 c 127 = 66 ∨ bAnd .u8 c 127 = 67 ∨ bAnd .u8 c 127 = 72 ∨ bAnd .u8 c 127 = 75
 ·obtain ⟨q1, q2⟩ := hr.1 hin
  rcases hin with hin | hin | hin | hin | hin
  all_goals (refine gox ?_)
  all_goals (refine finx ?_; try with_reducible rfl)
  all_goals rw [← q1, ← q2]
  all_goals rfl
 ·have q := hr.2 hin
  (refine gox ?_)
  (refine finx ?_; try with_reducible rfl)
  rw [q]; rfl
end
section
attribute [local simp] Pr.flen Pr.rd Pr.enc
theorem ze5 (tag : Nat) (set c : Int) (parted : Bool) (h0 : 0 ≤ c) (h1 : c < 256) : callω L T 297 tag [.int .i64 set, .int .u8 c, .bool parted] [none, none, none] = some (.int .i64 (mCharI set c parted), [none, none, none]) := by
 rw [za5 (show T 297 = some (.code a297) from rfl) rfl rfl]
 have e := and127 h0 h1
 have k0 : 0 ≤ bAnd .u8 c 127 := by omega
 have k1 : bAnd .u8 c 127 < 256 := by omega
 unfold mCharI
 rw [← e]
 by_cases hl : bAnd .u8 c 127 < 32
 ·rw [if_pos hl]
  (refine gox ?_)
  (refine finx ?_; try with_reducible rfl)
  rfl
 rw [if_neg hl]
 by_cases s0 : set = 0
 ·rw [if_pos s0]
  (have c1 := fun x1 => zo2 x1 (bAnd .u8 c 127) k0 k1; refine gox ?_; clear c1)
  (refine finx ?_; try with_reducible rfl)
 rw [if_neg s0]
 by_cases s1 : set = 1
 ·rw [if_pos s1]
  (have c1 := fun x1 => zis x1 (bAnd .u8 c 127) k0 k1; have c2 := fun x1 => zfk x1 (frenchI (bAnd .u8 c 127)) parted; refine gox ?_; clear c1 c2)
  (refine finx ?_; try with_reducible rfl)
 rw [if_neg s1]
 by_cases s2 : set = 2
 ·rw [if_pos s2]
  cases hs : (specI (bAnd .u8 c 127)).2
  all_goals (have c1 := fun x1 => zjt x1 (bAnd .u8 c 127) k0 k1; refine gox ?_; clear c1)
  all_goals (refine finx ?_; try with_reducible rfl)
  all_goals rfl
 rw [if_neg s2]
 (refine gox ?_)
 (refine finx ?_; try with_reducible rfl)
 rfl
theorem zpo (tag : Nat) (m c : Int) (g0 : 0 ≤ m) (g1 : m < 256) (h0 : 0 ≤ c) (h1 : c < 256) : callω L T 296 tag [.int .u8 m, .int .u8 c] [none, none] = some (.int .i64 (mJoinI m c), [none, none]) := by
 rw [za5 (show T 296 = some (.code a296) from rfl) rfl rfl]
 unfold mJoinI
 cases ha : (accI m).2
 ·rw [if_neg (by simp)]
  (have c1 := fun x1 => zdv x1 m g0 g1; have c2 := fun x1 => ze5 x1 0 c false h0 h1; refine gox ?_; clear c1 c2)
  (refine finx ?_; try with_reducible rfl)
 ·by_cases hj : joinI (accI m).1 c = plainI c
  ·rw [if_neg (by simp [hj])]
   (have c1 := fun x1 => zdv x1 m g0 g1; have c2 := fun x1 => ze5 x1 0 c false h0 h1; have c3 := fun x1 => zgj x1 (accI m).1 c h0 h1; have c4 := fun x1 => zdx x1 c h0 h1; refine gox ?_; clear c1 c2 c3 c4)
   (refine finx ?_; try with_reducible rfl)
  ·rw [if_pos ⟨rfl, hj⟩]
   (have c1 := fun x1 => zdv x1 m g0 g1; have c2 := fun x1 => ze5 x1 0 c false h0 h1; have c3 := fun x1 => zgj x1 (accI m).1 c h0 h1; have c4 := fun x1 => zdx x1 c h0 h1; refine gox ?_; clear c1 c2 c3 c4)
   (refine finx ?_; try with_reducible rfl)
end
section
attribute [local simp] Ev.flen Ev.rd Ev.enc Slot.flen Slot.rd Slot.pute Slot.zero Slot.enc
def glyphI (e : Ev) : Int := if e.set = 2 ∧ e.a ≠ 0 then mJoinI (IntKind.u8.wrap e.a) (IntKind.u8.wrap e.code) else mCharI e.set (IntKind.u8.wrap e.code) false
theorem u8_rng (x : Int) : 0 ≤ IntKind.u8.wrap x ∧ IntKind.u8.wrap x < 256 := by rw [zio]; omega
theorem mPlain_rng {c : Int} (h0 : 0 ≤ c) (h1 : c < 256) : 0 ≤ mPlainI c ∧ mPlainI c < 2000000 := by
 unfold mPlainI
 repeat' split
 all_goals omega
theorem french_rng (c : Int) (h0 : 0 ≤ c) (h1 : c < 256) : 0 ≤ mGlyphI (frenchI c) false ∧ mGlyphI (frenchI c) false < 2000000 := by
 unfold mGlyphI; simp; omega
theorem znx {l : List Pr} {c g : Int} (h : find1 l c = some g) : ∃ p ∈ l, p.glyph = g := by
 induction l with
 | nil => cases h
 | cons p l ih =>
  simp only [find1] at h
  split at h
  ·cases h; exact ⟨p, by simp, rfl⟩
  ·obtain ⟨q, h1, h2⟩ := ih h
   exact ⟨q, by simp [h1], h2⟩
theorem spec_rng (c : Int) : 0 ≤ (specI c).1 ∧ (specI c).1 < 2000000 := by
 unfold specI
 cases h : find1 specL (c % 128) with
 | none => simp
 | some g =>
  obtain ⟨p, h1, rfl⟩ := znx h
  have : ∀ p ∈ specL, 0 ≤ p.glyph ∧ p.glyph < 2000000 := by decide
  exact this p h1
theorem zor (set : Int) {c : Int} (h0 : 0 ≤ c) (h1 : c < 256) : 0 ≤ mCharI set c false ∧ mCharI set c false < 2000000 := by
 unfold mCharI
 split
 ·omega
 split
 ·exact mPlain_rng (by omega) (by omega)
 split
 ·exact french_rng _ (by omega) (by omega)
 split
 ·split
  ·exact spec_rng _
  ·omega
 ·omega
theorem pairs_rng (m : Int) : ∀ p ∈ pairsL m, 0 ≤ p.glyph ∧ p.glyph < 2000000 := by
 unfold pairsL
 by_cases q1 : m = 1
 ·rw [if_pos q1]; decide
 rw [if_neg q1]
 by_cases q2 : m = 2
 ·rw [if_pos q2]; decide
 rw [if_neg q2]
 by_cases q3 : m = 3
 ·rw [if_pos q3]; decide
 rw [if_neg q3]
 by_cases q4 : m = 4
 ·rw [if_pos q4]; decide
 rw [if_neg q4]
 by_cases q6 : m = 6
 ·rw [if_pos q6]; decide
 rw [if_neg q6]
 by_cases q7 : m = 7
 ·rw [if_pos q7]; decide
 rw [if_neg q7]
 unfold moreL
 by_cases q8 : m = 8
 ·rw [if_pos q8]; decide
 rw [if_neg q8]
 by_cases q10 : m = 10
 ·rw [if_pos q10]; decide
 rw [if_neg q10]
 by_cases q11 : m = 11
 ·rw [if_pos q11]; decide
 rw [if_neg q11]
 by_cases q13 : m = 13
 ·rw [if_pos q13]; decide
 rw [if_neg q13]
 by_cases q14 : m = 14
 ·rw [if_pos q14]; decide
 rw [if_neg q14]
 by_cases q15 : m = 15
 ·rw [if_pos q15]; decide
 rw [if_neg q15]
 decide
theorem join_rng (m : Int) {c : Int} (h0 : 0 ≤ c) (h1 : c < 256) : 0 ≤ joinI m c ∧ joinI m c < 2000000 := by
 unfold joinI
 split
 ·omega
 ·split
  ·rename_i g h
   obtain ⟨p, h1, rfl⟩ := znx h
   exact pairs_rng m p h1
  ·split
   ·omega
   ·unfold plainI
    repeat' split
    all_goals omega
theorem mJoin_rng (m : Int) {c : Int} (h0 : 0 ≤ c) (h1 : c < 256) : 0 ≤ mJoinI m c ∧ mJoinI m c < 2000000 := by
 unfold mJoinI
 split
 ·exact join_rng _ h0 h1
 ·exact zor 0 h0 h1
theorem znb (e : Ev) : 0 ≤ glyphI e ∧ glyphI e < 2000000 := by
 have := u8_rng e.code
 unfold glyphI
 split
 ·exact mJoin_rng _ this.1 this.2
 ·exact zor _ this.1 this.2
theorem t_glyph (tag : Nat) (e : Ev) : callω L T 274 tag [.agg e.enc] [none] = some (.int .i64 (glyphI e), [none]) := by
 have ra := u8_rng e.a
 have rc := u8_rng e.code
 obtain ⟨kind, a, b, c, d, set, code⟩ := e
 unfold glyphI
 simp only at ra rc ⊢
 rw [za5 (show T 274 = some (.code a274) from rfl) rfl rfl]
 have cJ := fun tag => zpo tag (IntKind.u8.wrap a) (IntKind.u8.wrap code) ra.1 ra.2 rc.1 rc.2
 have cC := fun tag => ze5 tag set (IntKind.u8.wrap code) false rc.1 rc.2
 by_cases h : set = 2
 ·by_cases h2 : a = 0
  ·rw [if_neg (fun e => e.2 h2)]
   subst h
   subst h2
   (have fA := @Ev.enc.eq_1; have c1 := fun x1 => cC x1; refine gox ?_; clear fA c1)
   (refine finx ?_; try with_reducible rfl)
   try rfl
  ·rw [if_pos ⟨h, h2⟩]
   subst h
   (have fA := @Ev.enc.eq_1; have c1 := fun x1 => cJ x1; refine gox ?_; clear fA c1)
   (refine finx ?_; try with_reducible rfl)
   try rfl
 ·rw [if_neg (fun e => h e.1)]
  (have fA := @Ev.enc.eq_1; have c1 := fun x1 => cC x1; refine gox ?_; clear fA c1)
  (refine finx ?_; try with_reducible rfl)
  try rfl
def slotC (w is : Bool) (set code : Int) : Bool := w && (is || (decide (set = 0) && decide (bAnd .i64 code 127 = 32)))
def slotX (s : Scr) (e : Ev) : Slot := if slotC s.waits (mOf (glyphI e)).2.2 e.set e.code = true then ⟨glyphI e, s.fg, s.flash, s.inv, 0, 0, true, s.bg, s.under, s.conc⟩ else
 ⟨glyphI e, s.fg, s.flash, s.inv, 0, 0, false, (if (mOf (glyphI e)).2.2 = true then s.bg else 0), false, false⟩
def slotW (s : Scr) (e : Ev) : Bool := if slotC s.waits (mOf (glyphI e)).2.2 e.set e.code = true then false else s.waits
def slotS (s : Scr) (e : Ev) : Scr := { s with waits := slotW s e }
theorem Scr.Ok.slot {s : Scr} (h : s.Ok) (e : Ev) : (slotS s e).Ok := by
 obtain ⟨a, b1, b2, d, e, f, g, i, j⟩ := h
 exact ⟨a, b1, b2, d, e, f, g, i, j⟩
theorem t_slot (tag : Nat) (s : Scr) (hs : s.Ok) (e : Ev) : callω L T 230 tag [.ref 0 (tag, 0) 0, .agg e.enc] [some s.enc, none] = some (.agg (slotX s e).enc, [some (slotS s e).enc, none]) := by
 obtain ⟨row, col, fg, bg, flash, inv, under, conc, tall, wide, cursor, roll, masks, bells, sl, waits, row0, col0, wr⟩ := s
 obtain ⟨hsl, hr0, hr1, hc0, hc1, hq0, hq1, hd0, hd1⟩ := hs
 simp only at hsl hr0 hr1 hc0 hc1 hq0 hq1 hd0 hd1
 have hF := slF hsl
 have hP := Slot.pl sl
 simp only [Scr.enc]
 have hg := znb e
 have cG := fun tag => t_glyph tag e
 have cO := fun tag => zic tag (glyphI e) (by omega) (by omega)
 unfold slotX slotS slotW
 simp only
 obtain ⟨kind, a, b, c, d, set, code⟩ := e
 rw [za5 (show T 230 = some (.code a230) from rfl) rfl rfl]
 generalize glyphI ⟨kind, a, b, c, d, set, code⟩ = g at *
 simp only [Ev.enc] at cG
 generalize mOf g = o at cO ⊢
 obtain ⟨o1, o2, o3⟩ := o
 simp only at cO ⊢
 cases waits with
 | false =>
  have hc : slotC false o3 set code = false := rfl
  rw [hc]
  cases o3 with
  | true =>
   (have fA := aI @hF (aI @hP @Ev.enc.eq_1); have c1 := fun x1 => cG x1; have c2 := fun x1 => cO x1; refine gox ?_; clear fA c1 c2)
   (have fA := aI @hF (aI @hP @Ev.enc.eq_1); refine finx ?_; clear fA; try with_reducible rfl)
   all_goals first | rfl | (simp []; done)
  | false =>
   (have fA := aI @hF (aI @hP @Ev.enc.eq_1); have c1 := fun x1 => cG x1; have c2 := fun x1 => cO x1; refine gox ?_; clear fA c1 c2)
   (have fA := aI @hF (aI @hP @Ev.enc.eq_1); refine finx ?_; clear fA; try with_reducible rfl)
   all_goals first | rfl | (simp []; done)
 | true =>
  cases o3 with
  | true =>
   have hc : slotC true true set code = true := rfl
   rw [hc]
   (have fA := aI @hF (aI @hP @Ev.enc.eq_1); have c1 := fun x1 => cG x1; have c2 := fun x1 => cO x1; refine gox ?_; clear fA c1 c2)
   (have fA := aI @hF (aI @hP @Ev.enc.eq_1); refine finx ?_; clear fA; try with_reducible rfl)
   all_goals first | rfl | (simp []; done)
  | false =>
   by_cases h1 : set = 0
   ·by_cases h2 : bAnd .i64 code 127 = 32
    ·have hc : slotC true false set code = true := by simp [slotC, h1, h2]
     rw [hc]
     (have fA := aI @hF (aI @hP @Ev.enc.eq_1); have c1 := fun x1 => cG x1; have c2 := fun x1 => cO x1; refine gox ?_; clear fA c1 c2)
     (have fA := aI @hF (aI @hP @Ev.enc.eq_1); refine finx ?_; clear fA; try with_reducible rfl)
     all_goals first | rfl | (simp []; done)
    ·have hc : slotC true false set code = false := by simp [slotC, h1, h2]
     rw [hc]
     (have fA := aI @hF (aI @hP @Ev.enc.eq_1); have c1 := fun x1 => cG x1; have c2 := fun x1 => cO x1; refine gox ?_; clear fA c1 c2)
     (have fA := aI @hF (aI @hP @Ev.enc.eq_1); refine finx ?_; clear fA; try with_reducible rfl)
     all_goals first | rfl | (simp []; done)
   ·have hc : slotC true false set code = false := by simp [slotC, h1]
    rw [hc]
    (have fA := aI @hF (aI @hP @Ev.enc.eq_1); have c1 := fun x1 => cG x1; have c2 := fun x1 => cO x1; refine gox ?_; clear fA c1 c2)
    (have fA := aI @hF (aI @hP @Ev.enc.eq_1); refine finx ?_; clear fA; try with_reducible rfl)
    all_goals first | rfl | (simp []; done)
end
section
attribute [local simp] Ev.flen Ev.rd Ev.enc Slot.flen Slot.rd Slot.pute Slot.zero Slot.enc
def layAt (sl : List Slot) (r c : Nat) (x : Slot) (h : Int) (wide : Bool) : List Slot :=
 if wide = true then (sl.set (r * 40 + c) { x with high := h, wide := 1 }).set (r * 40 + (c + 1)) { x with high := h, wide := 2 } else sl.set (r * 40 + c) { x with high := h }
def laySl (s : Scr) (x : Slot) (tall wide : Bool) : List Slot := if tall = true then layAt (layAt s.sl s.row.toNat s.col.toNat x 2 wide) (s.row - 1).toNat s.col.toNat x 1 wide else layAt s.sl s.row.toNat s.col.toNat x 0 wide
def sLay (s : Scr) (x : Slot) (tall wide : Bool) : Scr := { s with sl := laySl s x tall wide }
def many (wide : Bool) : Int := if wide = true then 2 else 1
theorem zjk (sl : List Slot) (r c : Nat) (x : Slot) (h : Int) (wide : Bool) : (layAt sl r c x h wide).length = sl.length := by
 unfold layAt
 split <;> simp
theorem Scr.Ok.lay {s : Scr} (h : s.Ok) (x : Slot) (tall wide : Bool) : (sLay s x tall wide).Ok := by
 obtain ⟨a, b1, b2, d, e, f, g, i, j⟩ := h
 refine ⟨?_, b1, b2, d, e, f, g, i, j⟩
 unfold sLay laySl
 simp only
 split
 ·rw [zjk, zjk, a]
 ·rw [zjk, a]
theorem zd3 {sl : List Slot} {r c : Nat} (x : Slot) (T : List AV) (h : r * 40 + c < sl.length) : setR (flat Slot.enc sl ++ T) (r * 400 + c * 10) x.enc = flat Slot.enc (sl.set (r * 40 + c) x) ++ T := by
 have := zdd (sl := sl) (v := [x]) (k := r * 40 + c) T (by simp; omega)
 rw [ovr_one h, one_slot, show (r * 40 + c) * 10 = r * 400 + c * 10 from by omega] at this
 exact this
theorem t_lay (tag : Nat) (s : Scr) (hs : s.Ok) (x : Slot) (ta wi : Bool) (ht : ta = true → 1 < s.row) (hw : wi = true → s.col < 39) (hx : x.wide = 0) : callω L T 231 tag [.ref 0 (tag, 0) 0, .agg x.enc, .bool ta, .bool wi] [some s.enc, none, none, none] = some (.int .i64 (many wi), [some (sLay s x ta wi).enc, none, none, none]) := by
 obtain ⟨row, col, fg, bg, flash, inv, under, conc, tall, wide, cursor, roll, masks, bells, sl, waits, row0, col0, wr⟩ := s
 obtain ⟨hsl, hr0, hr1, hc0, hc1, hq0, hq1, hd0, hd1⟩ := hs
 simp only at hsl hr0 hr1 hc0 hc1 hq0 hq1 hd0 hd1
 have hF := slF hsl
 have hP := Slot.pl sl
 simp only [Scr.enc]
 obtain ⟨R, rfl⟩ : ∃ R : Nat, row = R := ⟨row.toNat, by omega⟩
 obtain ⟨C, rfl⟩ : ∃ C : Nat, col = C := ⟨col.toNat, by omega⟩
 obtain ⟨g, f, x2, x3, x4, x5, x6, x7, x8, x9⟩ := x
 simp only at hx ht hw
 subst hx
 unfold sLay laySl layAt
 simp only [Int.toNat_natCast, Slot.enc]
 rw [za5 (show T 231 = some (.code a231) from rfl) rfl rfl]
 have b1 : (R : Int) < 25 := by omega
 have b2 : (C : Int) < 40 := by omega
 cases ta with
 | false =>
  rw [if_neg (by decide)]
  have wr0 : IntKind.i64.wrap ((R : Int) - 0) = (R : Int) := by rw [w_i64 (by omega) (by omega)]; omega
  cases wi with
  | false =>
   rw [if_neg (by decide)]
   have l1 : (sl).length = 1000 := by simp [hsl]
   have F1 := slF l1
   have p1 : ∀ T : List AV, setR (flat Slot.enc (sl) ++ T) (R * 400 + C * 10) [.int .i64 g, .int .i64 f, .bool x2, .bool x3, .int .i64 0, .int .i64 0, .bool x6, .int .i64 x7, .bool x8, .bool x9] = flat Slot.enc ((sl).set (R * 40 + C) ⟨g, f, x2, x3, 0, 0, x6, x7, x8, x9⟩) ++ T := fun T => zd3 (sl := sl) (r := R) (c := C) ⟨g, f, x2, x3, 0, 0, x6, x7, x8, x9⟩ T (by rw [l1]; omega)
   have q1 : ∀ T : List AV, 14 + R * 400 + C * 10 + 10 ≤ (flat Slot.enc (sl) ++ T).length + 14 := fun T => by rw [List.length_append, sl_len l1]; omega
   have l2 : (sl.set (R * 40 + C) ⟨g, f, x2, x3, 0, 0, x6, x7, x8, x9⟩).length = 1000 := by simp [hsl]
   have F2 := slF l2
   have P2 := Slot.pl (sl.set (R * 40 + C) ⟨g, f, x2, x3, 0, 0, x6, x7, x8, x9⟩)
   (have fA := aI @hF (aI @hP (aI @s14 (aI @F1 (aI @p1 (aI @q1 (aI @F2 (aI @P2 @wr0))))))); refine gox ?_; clear fA)
   refine Eq.trans zad ?_
   (have fA := aI @hF (aI @hP (aI @s14 (aI @F1 (aI @p1 (aI @q1 (aI @F2 (aI @P2 @wr0))))))); refine gox ?_; clear fA)
   refine Eq.trans zad ?_
   (have fA := aI @hF (aI @hP (aI @s14 (aI @F1 (aI @p1 (aI @q1 (aI @F2 (aI @P2 @wr0))))))); refine gox ?_; clear fA)
   (have fA := aI @hF (aI @hP (aI @s14 (aI @F1 (aI @p1 (aI @q1 (aI @F2 (aI @P2 @wr0))))))); refine finx ?_; clear fA; try with_reducible rfl)
   all_goals first | rfl
  | true =>
   rw [if_pos rfl]
   have hw := hw rfl
   have b3 : ((C + 1 : Nat) : Int) < 40 := by omega
   have wc : IntKind.i64.wrap ((C : Int) + 1) = ((C + 1 : Nat) : Int) := by rw [w_i64 (by omega) (by omega)]; omega
   have l1 : (sl).length = 1000 := by simp [hsl]
   have F1 := slF l1
   have p1 : ∀ T : List AV, setR (flat Slot.enc (sl) ++ T) (R * 400 + C * 10) [.int .i64 g, .int .i64 f, .bool x2, .bool x3, .int .i64 0, .int .i64 1, .bool x6, .int .i64 x7, .bool x8, .bool x9] = flat Slot.enc ((sl).set (R * 40 + C) ⟨g, f, x2, x3, 0, 1, x6, x7, x8, x9⟩) ++ T := fun T => zd3 (sl := sl) (r := R) (c := C) ⟨g, f, x2, x3, 0, 1, x6, x7, x8, x9⟩ T (by rw [l1]; omega)
   have q1 : ∀ T : List AV, 14 + R * 400 + C * 10 + 10 ≤ (flat Slot.enc (sl) ++ T).length + 14 := fun T => by rw [List.length_append, sl_len l1]; omega
   have l2 : (sl.set (R * 40 + C) ⟨g, f, x2, x3, 0, 1, x6, x7, x8, x9⟩).length = 1000 := by simp [hsl]
   have F2 := slF l2
   have p2 : ∀ T : List AV, setR (flat Slot.enc (sl.set (R * 40 + C) ⟨g, f, x2, x3, 0, 1, x6, x7, x8, x9⟩) ++ T) (R * 400 + (C + 1) * 10) [.int .i64 g, .int .i64 f, .bool x2, .bool x3, .int .i64 0, .int .i64 2, .bool x6, .int .i64 x7, .bool x8, .bool x9] = flat Slot.enc ((sl.set (R * 40 + C) ⟨g, f, x2, x3, 0, 1, x6, x7, x8, x9⟩).set (R * 40 + (C + 1)) ⟨g, f, x2, x3, 0, 2, x6, x7, x8, x9⟩) ++ T := fun T => zd3 (sl := sl.set (R * 40 + C) ⟨g, f, x2, x3, 0, 1, x6, x7, x8, x9⟩) (r := R) (c := (C + 1)) ⟨g, f, x2, x3, 0, 2, x6, x7, x8, x9⟩ T (by rw [l2]; omega)
   have q2 : ∀ T : List AV, 14 + R * 400 + (C + 1) * 10 + 10 ≤ (flat Slot.enc (sl.set (R * 40 + C) ⟨g, f, x2, x3, 0, 1, x6, x7, x8, x9⟩) ++ T).length + 14 := fun T => by rw [List.length_append, sl_len l2]; omega
   have l3 : ((sl.set (R * 40 + C) ⟨g, f, x2, x3, 0, 1, x6, x7, x8, x9⟩).set (R * 40 + (C + 1)) ⟨g, f, x2, x3, 0, 2, x6, x7, x8, x9⟩).length = 1000 := by simp [hsl]
   have F3 := slF l3
   have P3 := Slot.pl ((sl.set (R * 40 + C) ⟨g, f, x2, x3, 0, 1, x6, x7, x8, x9⟩).set (R * 40 + (C + 1)) ⟨g, f, x2, x3, 0, 2, x6, x7, x8, x9⟩)
   (have fA := aI @hF (aI @hP (aI @s14 (aI @F1 (aI @p1 (aI @q1 (aI @F2 (aI @p2 (aI @q2 (aI @F3 (aI @P3 (aI @wc @wr0))))))))))); refine gox ?_; clear fA)
   refine Eq.trans zad ?_
   (have fA := aI @hF (aI @hP (aI @s14 (aI @F1 (aI @p1 (aI @q1 (aI @F2 (aI @p2 (aI @q2 (aI @F3 (aI @P3 (aI @wc @wr0))))))))))); refine gox ?_; clear fA)
   refine Eq.trans zad ?_
   (have fA := aI @hF (aI @hP (aI @s14 (aI @F1 (aI @p1 (aI @q1 (aI @F2 (aI @p2 (aI @q2 (aI @F3 (aI @P3 (aI @wc @wr0))))))))))); refine gox ?_; clear fA)
   (have fA := aI @hF (aI @hP (aI @s14 (aI @F1 (aI @p1 (aI @q1 (aI @F2 (aI @p2 (aI @q2 (aI @F3 (aI @P3 (aI @wc @wr0))))))))))); refine finx ?_; clear fA; try with_reducible rfl)
   all_goals first | rfl
 | true =>
  rw [if_pos rfl]
  have ht := ht rfl
  obtain ⟨Q, rfl⟩ : ∃ Q : Nat, R = Q + 1 := ⟨R - 1, by omega⟩
  have eQ : (((Q + 1 : Nat) : Int) - 1).toNat = Q := by omega
  have wr0 : IntKind.i64.wrap (((Q + 1 : Nat) : Int) - 0) = ((Q + 1 : Nat) : Int) := by rw [w_i64 (by omega) (by omega)]; omega
  have wr1 : IntKind.i64.wrap (((Q + 1 : Nat) : Int) - IntKind.i64.wrap (0 + 1)) = (Q : Int) := by rw [show IntKind.i64.wrap (0 + 1) = 1 from by decide, w_i64 (by omega) (by omega)]; omega
  have b4 : (Q : Int) < 25 := by omega
  rw [eQ]
  cases wi with
  | false =>
   rw [if_neg (by decide), if_neg (by decide)]
   have l1 : (sl).length = 1000 := by simp [hsl]
   have F1 := slF l1
   have p1 : ∀ T : List AV, setR (flat Slot.enc (sl) ++ T) ((Q + 1) * 400 + C * 10) [.int .i64 g, .int .i64 f, .bool x2, .bool x3, .int .i64 2, .int .i64 0, .bool x6, .int .i64 x7, .bool x8, .bool x9] = flat Slot.enc ((sl).set ((Q + 1) * 40 + C) ⟨g, f, x2, x3, 2, 0, x6, x7, x8, x9⟩) ++ T := fun T => zd3 (sl := sl) (r := (Q + 1)) (c := C) ⟨g, f, x2, x3, 2, 0, x6, x7, x8, x9⟩ T (by rw [l1]; omega)
   have q1 : ∀ T : List AV, 14 + (Q + 1) * 400 + C * 10 + 10 ≤ (flat Slot.enc (sl) ++ T).length + 14 := fun T => by rw [List.length_append, sl_len l1]; omega
   have l2 : (sl.set ((Q + 1) * 40 + C) ⟨g, f, x2, x3, 2, 0, x6, x7, x8, x9⟩).length = 1000 := by simp [hsl]
   have F2 := slF l2
   have p2 : ∀ T : List AV, setR (flat Slot.enc (sl.set ((Q + 1) * 40 + C) ⟨g, f, x2, x3, 2, 0, x6, x7, x8, x9⟩) ++ T) (Q * 400 + C * 10) [.int .i64 g, .int .i64 f, .bool x2, .bool x3, .int .i64 1, .int .i64 0, .bool x6, .int .i64 x7, .bool x8, .bool x9] = flat Slot.enc ((sl.set ((Q + 1) * 40 + C) ⟨g, f, x2, x3, 2, 0, x6, x7, x8, x9⟩).set (Q * 40 + C) ⟨g, f, x2, x3, 1, 0, x6, x7, x8, x9⟩) ++ T := fun T => zd3 (sl := sl.set ((Q + 1) * 40 + C) ⟨g, f, x2, x3, 2, 0, x6, x7, x8, x9⟩) (r := Q) (c := C) ⟨g, f, x2, x3, 1, 0, x6, x7, x8, x9⟩ T (by rw [l2]; omega)
   have q2 : ∀ T : List AV, 14 + Q * 400 + C * 10 + 10 ≤ (flat Slot.enc (sl.set ((Q + 1) * 40 + C) ⟨g, f, x2, x3, 2, 0, x6, x7, x8, x9⟩) ++ T).length + 14 := fun T => by rw [List.length_append, sl_len l2]; omega
   have l3 : ((sl.set ((Q + 1) * 40 + C) ⟨g, f, x2, x3, 2, 0, x6, x7, x8, x9⟩).set (Q * 40 + C) ⟨g, f, x2, x3, 1, 0, x6, x7, x8, x9⟩).length = 1000 := by simp [hsl]
   have F3 := slF l3
   have P3 := Slot.pl ((sl.set ((Q + 1) * 40 + C) ⟨g, f, x2, x3, 2, 0, x6, x7, x8, x9⟩).set (Q * 40 + C) ⟨g, f, x2, x3, 1, 0, x6, x7, x8, x9⟩)
   (have fA := aI @hF (aI @hP (aI @s14 (aI @F1 (aI @p1 (aI @q1 (aI @F2 (aI @p2 (aI @q2 (aI @F3 (aI @P3 (aI @wr0 @wr1))))))))))); refine gox ?_; clear fA)
   refine Eq.trans zad ?_
   (have fA := aI @hF (aI @hP (aI @s14 (aI @F1 (aI @p1 (aI @q1 (aI @F2 (aI @p2 (aI @q2 (aI @F3 (aI @P3 (aI @wr0 @wr1))))))))))); refine gox ?_; clear fA)
   refine Eq.trans zad ?_
   (have fA := aI @hF (aI @hP (aI @s14 (aI @F1 (aI @p1 (aI @q1 (aI @F2 (aI @p2 (aI @q2 (aI @F3 (aI @P3 (aI @wr0 @wr1))))))))))); refine gox ?_; clear fA)
   refine Eq.trans zad ?_
   (have fA := aI @hF (aI @hP (aI @s14 (aI @F1 (aI @p1 (aI @q1 (aI @F2 (aI @p2 (aI @q2 (aI @F3 (aI @P3 (aI @wr0 @wr1))))))))))); refine gox ?_; clear fA)
   (have fA := aI @hF (aI @hP (aI @s14 (aI @F1 (aI @p1 (aI @q1 (aI @F2 (aI @p2 (aI @q2 (aI @F3 (aI @P3 (aI @wr0 @wr1))))))))))); refine finx ?_; clear fA; try with_reducible rfl)
   all_goals first | rfl
  | true =>
   rw [if_pos rfl, if_pos rfl]
   have hw := hw rfl
   have b3 : ((C + 1 : Nat) : Int) < 40 := by omega
   have wc : IntKind.i64.wrap ((C : Int) + 1) = ((C + 1 : Nat) : Int) := by rw [w_i64 (by omega) (by omega)]; omega
   have l1 : (sl).length = 1000 := by simp [hsl]
   have F1 := slF l1
   have p1 : ∀ T : List AV, setR (flat Slot.enc (sl) ++ T) ((Q + 1) * 400 + C * 10) [.int .i64 g, .int .i64 f, .bool x2, .bool x3, .int .i64 2, .int .i64 1, .bool x6, .int .i64 x7, .bool x8, .bool x9] = flat Slot.enc ((sl).set ((Q + 1) * 40 + C) ⟨g, f, x2, x3, 2, 1, x6, x7, x8, x9⟩) ++ T := fun T => zd3 (sl := sl) (r := (Q + 1)) (c := C) ⟨g, f, x2, x3, 2, 1, x6, x7, x8, x9⟩ T (by rw [l1]; omega)
   have q1 : ∀ T : List AV, 14 + (Q + 1) * 400 + C * 10 + 10 ≤ (flat Slot.enc (sl) ++ T).length + 14 := fun T => by rw [List.length_append, sl_len l1]; omega
   have l2 : (sl.set ((Q + 1) * 40 + C) ⟨g, f, x2, x3, 2, 1, x6, x7, x8, x9⟩).length = 1000 := by simp [hsl]
   have F2 := slF l2
   have p2 : ∀ T : List AV, setR (flat Slot.enc (sl.set ((Q + 1) * 40 + C) ⟨g, f, x2, x3, 2, 1, x6, x7, x8, x9⟩) ++ T) ((Q + 1) * 400 + (C + 1) * 10) [.int .i64 g, .int .i64 f, .bool x2, .bool x3, .int .i64 2, .int .i64 2, .bool x6, .int .i64 x7, .bool x8, .bool x9] = flat Slot.enc ((sl.set ((Q + 1) * 40 + C) ⟨g, f, x2, x3, 2, 1, x6, x7, x8, x9⟩).set ((Q + 1) * 40 + (C + 1)) ⟨g, f, x2, x3, 2, 2, x6, x7, x8, x9⟩) ++ T := fun T => zd3 (sl := sl.set ((Q + 1) * 40 + C) ⟨g, f, x2, x3, 2, 1, x6, x7, x8, x9⟩) (r := (Q + 1)) (c := (C + 1)) ⟨g, f, x2, x3, 2, 2, x6, x7, x8, x9⟩ T (by rw [l2]; omega)
   have q2 : ∀ T : List AV, 14 + (Q + 1) * 400 + (C + 1) * 10 + 10 ≤ (flat Slot.enc (sl.set ((Q + 1) * 40 + C) ⟨g, f, x2, x3, 2, 1, x6, x7, x8, x9⟩) ++ T).length + 14 := fun T => by rw [List.length_append, sl_len l2]; omega
   have l3 : ((sl.set ((Q + 1) * 40 + C) ⟨g, f, x2, x3, 2, 1, x6, x7, x8, x9⟩).set ((Q + 1) * 40 + (C + 1)) ⟨g, f, x2, x3, 2, 2, x6, x7, x8, x9⟩).length = 1000 := by simp [hsl]
   have F3 := slF l3
   have p3 : ∀ T : List AV, setR (flat Slot.enc ((sl.set ((Q + 1) * 40 + C) ⟨g, f, x2, x3, 2, 1, x6, x7, x8, x9⟩).set ((Q + 1) * 40 + (C + 1)) ⟨g, f, x2, x3, 2, 2, x6, x7, x8, x9⟩) ++ T) (Q * 400 + C * 10) [.int .i64 g, .int .i64 f, .bool x2, .bool x3, .int .i64 1, .int .i64 1, .bool x6, .int .i64 x7, .bool x8, .bool x9] = flat Slot.enc (((sl.set ((Q + 1) * 40 + C) ⟨g, f, x2, x3, 2, 1, x6, x7, x8, x9⟩).set ((Q + 1) * 40 + (C + 1)) ⟨g, f, x2, x3, 2, 2, x6, x7, x8, x9⟩).set (Q * 40 + C) ⟨g, f, x2, x3, 1, 1, x6, x7, x8, x9⟩) ++ T := fun T => zd3 (sl := (sl.set ((Q + 1) * 40 + C) ⟨g, f, x2, x3, 2, 1, x6, x7, x8, x9⟩).set ((Q + 1) * 40 + (C + 1)) ⟨g, f, x2, x3, 2, 2, x6, x7, x8, x9⟩) (r := Q) (c := C) ⟨g, f, x2, x3, 1, 1, x6, x7, x8, x9⟩ T (by rw [l3]; omega)
   have q3 : ∀ T : List AV, 14 + Q * 400 + C * 10 + 10 ≤ (flat Slot.enc ((sl.set ((Q + 1) * 40 + C) ⟨g, f, x2, x3, 2, 1, x6, x7, x8, x9⟩).set ((Q + 1) * 40 + (C + 1)) ⟨g, f, x2, x3, 2, 2, x6, x7, x8, x9⟩) ++ T).length + 14 := fun T => by rw [List.length_append, sl_len l3]; omega
   have l4 : (((sl.set ((Q + 1) * 40 + C) ⟨g, f, x2, x3, 2, 1, x6, x7, x8, x9⟩).set ((Q + 1) * 40 + (C + 1)) ⟨g, f, x2, x3, 2, 2, x6, x7, x8, x9⟩).set (Q * 40 + C) ⟨g, f, x2, x3, 1, 1, x6, x7, x8, x9⟩).length = 1000 := by simp [hsl]
   have F4 := slF l4
   have p4 : ∀ T : List AV, setR (flat Slot.enc (((sl.set ((Q + 1) * 40 + C) ⟨g, f, x2, x3, 2, 1, x6, x7, x8, x9⟩).set ((Q + 1) * 40 + (C + 1)) ⟨g, f, x2, x3, 2, 2, x6, x7, x8, x9⟩).set (Q * 40 + C) ⟨g, f, x2, x3, 1, 1, x6, x7, x8, x9⟩) ++ T) (Q * 400 + (C + 1) * 10) [.int .i64 g, .int .i64 f, .bool x2, .bool x3, .int .i64 1, .int .i64 2, .bool x6, .int .i64 x7, .bool x8, .bool x9] = flat Slot.enc ((((sl.set ((Q + 1) * 40 + C) ⟨g, f, x2, x3, 2, 1, x6, x7, x8, x9⟩).set ((Q + 1) * 40 + (C + 1)) ⟨g, f, x2, x3, 2, 2, x6, x7, x8, x9⟩).set (Q * 40 + C) ⟨g, f, x2, x3, 1, 1, x6, x7, x8, x9⟩).set (Q * 40 + (C + 1)) ⟨g, f, x2, x3, 1, 2, x6, x7, x8, x9⟩) ++ T := fun T => zd3 (sl := ((sl.set ((Q + 1) * 40 + C) ⟨g, f, x2, x3, 2, 1, x6, x7, x8, x9⟩).set ((Q + 1) * 40 + (C + 1)) ⟨g, f, x2, x3, 2, 2, x6, x7, x8, x9⟩).set (Q * 40 + C) ⟨g, f, x2, x3, 1, 1, x6, x7, x8, x9⟩) (r := Q) (c := (C + 1)) ⟨g, f, x2, x3, 1, 2, x6, x7, x8, x9⟩ T (by rw [l4]; omega)
   have q4 : ∀ T : List AV, 14 + Q * 400 + (C + 1) * 10 + 10 ≤ (flat Slot.enc (((sl.set ((Q + 1) * 40 + C) ⟨g, f, x2, x3, 2, 1, x6, x7, x8, x9⟩).set ((Q + 1) * 40 + (C + 1)) ⟨g, f, x2, x3, 2, 2, x6, x7, x8, x9⟩).set (Q * 40 + C) ⟨g, f, x2, x3, 1, 1, x6, x7, x8, x9⟩) ++ T).length + 14 := fun T => by rw [List.length_append, sl_len l4]; omega
   have l5 : ((((sl.set ((Q + 1) * 40 + C) ⟨g, f, x2, x3, 2, 1, x6, x7, x8, x9⟩).set ((Q + 1) * 40 + (C + 1)) ⟨g, f, x2, x3, 2, 2, x6, x7, x8, x9⟩).set (Q * 40 + C) ⟨g, f, x2, x3, 1, 1, x6, x7, x8, x9⟩).set (Q * 40 + (C + 1)) ⟨g, f, x2, x3, 1, 2, x6, x7, x8, x9⟩).length = 1000 := by simp [hsl]
   have F5 := slF l5
   have P5 := Slot.pl ((((sl.set ((Q + 1) * 40 + C) ⟨g, f, x2, x3, 2, 1, x6, x7, x8, x9⟩).set ((Q + 1) * 40 + (C + 1)) ⟨g, f, x2, x3, 2, 2, x6, x7, x8, x9⟩).set (Q * 40 + C) ⟨g, f, x2, x3, 1, 1, x6, x7, x8, x9⟩).set (Q * 40 + (C + 1)) ⟨g, f, x2, x3, 1, 2, x6, x7, x8, x9⟩)
   (have fA := aI @hF (aI @hP (aI @s14 (aI @F1 (aI @p1 (aI @q1 (aI @F2 (aI @p2 (aI @q2 (aI @F3 (aI @p3 (aI @q3 (aI @F4 (aI @p4 (aI @q4 (aI @F5 (aI @P5 (aI @wr0 (aI @wr1 @wc)))))))))))))))))); refine gox ?_; clear fA)
   refine Eq.trans zad ?_
   (have fA := aI @hF (aI @hP (aI @s14 (aI @F1 (aI @p1 (aI @q1 (aI @F2 (aI @p2 (aI @q2 (aI @F3 (aI @p3 (aI @q3 (aI @F4 (aI @p4 (aI @q4 (aI @F5 (aI @P5 (aI @wr0 (aI @wr1 @wc)))))))))))))))))); refine gox ?_; clear fA)
   refine Eq.trans zad ?_
   (have fA := aI @hF (aI @hP (aI @s14 (aI @F1 (aI @p1 (aI @q1 (aI @F2 (aI @p2 (aI @q2 (aI @F3 (aI @p3 (aI @q3 (aI @F4 (aI @p4 (aI @q4 (aI @F5 (aI @P5 (aI @wr0 (aI @wr1 @wc)))))))))))))))))); refine gox ?_; clear fA)
   refine Eq.trans zad ?_
   (have fA := aI @hF (aI @hP (aI @s14 (aI @F1 (aI @p1 (aI @q1 (aI @F2 (aI @p2 (aI @q2 (aI @F3 (aI @p3 (aI @q3 (aI @F4 (aI @p4 (aI @q4 (aI @F5 (aI @P5 (aI @wr0 (aI @wr1 @wc)))))))))))))))))); refine gox ?_; clear fA)
   (have fA := aI @hF (aI @hP (aI @s14 (aI @F1 (aI @p1 (aI @q1 (aI @F2 (aI @p2 (aI @q2 (aI @F3 (aI @p3 (aI @q3 (aI @F4 (aI @p4 (aI @q4 (aI @F5 (aI @P5 (aI @wr0 (aI @wr1 @wc)))))))))))))))))); refine finx ?_; clear fA; try with_reducible rfl)
   all_goals first | rfl
end
section
attribute [local simp] Ev.flen Ev.rd Ev.enc Slot.flen Slot.rd Slot.pute Slot.zero Slot.enc
def sEnd (s : Scr) (c : Int) : Scr := if c ≤ 39 then { s with col := c } else if s.row = 0 then { s with col := 39 } else { sDown { s with col := c } with col := 0 }
def sWrite (s : Scr) (e : Ev) : Scr :=
 sEnd (sLay (slotS { s with wr := e } e) (slotX { s with wr := e } e) (!(mOf (slotX { s with wr := e } e).glyph).2.2 && s.tall && decide (s.row > 1)) (!(mOf (slotX { s with wr := e } e).glyph).2.2 && s.wide && decide (s.col < 39)))
  (s.col + many (!(mOf (slotX { s with wr := e } e).glyph).2.2 && s.wide && decide (s.col < 39)))
theorem slotX_wide (s : Scr) (e : Ev) : (slotX s e).wide = 0 ∧ (slotX s e).glyph = glyphI e := by
 unfold slotX
 split <;> exact ⟨rfl, rfl⟩
theorem Scr.Ok.ends {s : Scr} (h : s.Ok) {c : Int} (h0 : 0 ≤ c) : (sEnd s c).Ok := by
 have h1 := h.sl; have h2 := h.r0; have h3 := h.r1
 unfold sEnd
 by_cases q : c ≤ 39
 ·rw [if_pos q]; exact ⟨h1, h2, h3, h0, q, h.q0, h.q1, h.d0, h.d1⟩
 rw [if_neg q]
 by_cases q2 : s.row = 0
 ·rw [if_pos q2]; exact ⟨h1, h2, h3, by simp, by simp, h.q0, h.q1, h.d0, h.d1⟩
 rw [if_neg q2]
 have e : sDown { s with col := c } = { sDown s with col := c } := by
  unfold sDown
  simp only [if_neg q2]
  by_cases q3 : s.row < 24
  ·simp only [if_pos q3]
  simp only [if_neg q3]
  split <;> rfl
 rw [e]
 have hd := h.down
 exact ⟨hd.sl, hd.r0, hd.r1, by simp, by simp, hd.q0, hd.q1, hd.d0, hd.d1⟩
theorem Scr.Ok.write {s : Scr} (h : s.Ok) (e : Ev) : (sWrite s e).Ok := by
 have h1 := h.c0
 have hw : ({ s with wr := e } : Scr).Ok := ⟨h.sl, h.r0, h.r1, h.c0, h.c1, h.q0, h.q1, h.d0, h.d1⟩
 unfold sWrite
 refine ((hw.slot e).lay _ _ _).ends ?_
 unfold many
 split <;> omega
theorem zgb {s : Scr} (a : s.sl.length = 1000) : (sDown s).sl.length = 1000 := by
 unfold sDown
 by_cases q : s.row = 0
 ·rw [if_pos q]; exact a
 rw [if_neg q]
 by_cases q2 : s.row < 24
 ·rw [if_pos q2]; exact a
 rw [if_neg q2]
 by_cases q3 : s.roll = true
 ·rw [if_pos q3]
  have h1 : (ovr s.sl 40 (s.sl.drop 80)).length = 1000 := by rw [zbe (by simp; omega), a]
  simp only; rw [zbe (by rw [zak]; omega), h1]
 rw [if_neg q3]; exact a
theorem t_write (tag : Nat) (s : Scr) (hs : s.Ok) (e : Ev) : callω L T 184 tag [.ref 0 (tag, 0) 0, .agg e.enc] [some s.enc, none] = some (.tup [], [some (sWrite s e).enc, none]) := by
 obtain ⟨row, col, fg, bg, flash, inv, under, conc, tall, wide, cursor, roll, masks, bells, sl, waits, row0, col0, wr⟩ := s
 obtain ⟨hsl, hr0, hr1, hc0, hc1, hq0, hq1, hd0, hd1⟩ := hs
 simp only at hsl hr0 hr1 hc0 hc1 hq0 hq1 hd0 hd1
 have hF := slF hsl
 have hP := Slot.pl sl
 simp only [Scr.enc]
 have hg := znb e
 have hxw := slotX_wide ⟨row, col, fg, bg, flash, inv, under, conc, tall, wide, cursor, roll, masks, bells, sl, waits, row0, col0, e⟩ e
 have cS := fun tag => t_slot tag ⟨row, col, fg, bg, flash, inv, under, conc, tall, wide, cursor, roll, masks, bells, sl, waits, row0, col0, e⟩ ⟨hsl, hr0, hr1, hc0, hc1, hq0, hq1, hd0, hd1⟩ e
 have cO := fun tag => zic tag (glyphI e) (by omega) (by omega)
 rw [← hxw.2] at cO
 have eW : sWrite ⟨row, col, fg, bg, flash, inv, under, conc, tall, wide, cursor, roll, masks, bells, sl, waits, row0, col0, wr⟩ e = sEnd (sLay (slotS ⟨row, col, fg, bg, flash, inv, under, conc, tall, wide, cursor, roll, masks, bells, sl, waits, row0, col0, e⟩ e) (slotX ⟨row, col, fg, bg, flash, inv, under, conc, tall, wide, cursor, roll, masks, bells, sl, waits, row0, col0, e⟩ e) (!(mOf (slotX ⟨row, col, fg, bg, flash, inv, under, conc, tall, wide, cursor, roll, masks, bells, sl, waits, row0, col0, e⟩ e).glyph).2.2 && tall && decide (row > 1)) (!(mOf (slotX ⟨row, col, fg, bg, flash, inv, under, conc, tall, wide, cursor, roll, masks, bells, sl, waits, row0, col0, e⟩ e).glyph).2.2 && wide && decide (col < 39))) (col + many (!(mOf (slotX ⟨row, col, fg, bg, flash, inv, under, conc, tall, wide, cursor, roll, masks, bells, sl, waits, row0, col0, e⟩ e).glyph).2.2 && wide && decide (col < 39))) := rfl
 rw [eW]
 clear eW hg
 obtain ⟨hxw, _⟩ := hxw
 unfold slotS at cS ⊢
 generalize slotW ⟨row, col, fg, bg, flash, inv, under, conc, tall, wide, cursor, roll, masks, bells, sl, waits, row0, col0, e⟩ e = w2 at cS ⊢
 generalize slotX ⟨row, col, fg, bg, flash, inv, under, conc, tall, wide, cursor, roll, masks, bells, sl, waits, row0, col0, e⟩ e = x at cS cO hxw ⊢
 obtain ⟨kind, a, b, c, d, set, code⟩ := e
 generalize hO : mOf x.glyph = o at cO ⊢
 obtain ⟨o1, o2, o3⟩ := o
 simp only [Scr.enc, Ev.enc] at cS cO ⊢
 have cL := fun tag ta wi ht hw => t_lay tag ⟨row, col, fg, bg, flash, inv, under, conc, tall, wide, cursor, roll, masks, bells, sl, w2, row0, col0, ⟨kind, a, b, c, d, set, code⟩⟩ ⟨hsl, hr0, hr1, hc0, hc1, hq0, hq1, hd0, hd1⟩ x ta wi ht hw hxw
 have hL := fun ta wi => (Scr.Ok.lay (s := ⟨row, col, fg, bg, flash, inv, under, conc, tall, wide, cursor, roll, masks, bells, sl, w2, row0, col0, ⟨kind, a, b, c, d, set, code⟩⟩) ⟨hsl, hr0, hr1, hc0, hc1, hq0, hq1, hd0, hd1⟩ x ta wi).sl
 unfold sLay at cL hL ⊢
 obtain ⟨g, f, x2, x3, x4, x5, x6, x7, x8, x9⟩ := x
 simp only [Scr.enc, Slot.enc] at cS cL hL cO ⊢
 have rT0 := slR hsl hsl
 rw [za5 (show T 184 = some (.code a184) from rfl) rfl rfl]
 (have fA := aI @hF (aI @hP @rT0); have c1 := fun x1 => cS x1; have c2 := fun x1 => cO x1; refine gox ?_; clear fA c1 c2)
 cases o3 with
 | true =>
  simp only [Bool.not_true, Bool.false_and]
  replace cL := fun tag => cL tag false false (fun e => by cases e) (fun e => by cases e)
  replace hL := hL false false
  rw [show many false = 1 from rfl] at cL ⊢
  generalize laySl ⟨row, col, fg, bg, flash, inv, under, conc, tall, wide, cursor, roll, masks, bells, sl, w2, row0, col0, ⟨kind, a, b, c, d, set, code⟩⟩ ⟨g, f, x2, x3, x4, x5, x6, x7, x8, x9⟩ false false = sl3 at cL hL ⊢
  have hF3 := slF hL
  have hP3 := Slot.pl sl3
  have rT3 := slR hsl hL
  have wc : IntKind.i64.wrap (col + 1) = col + 1 := w_i64 (by omega) (by omega)
  unfold sEnd
  simp only
  by_cases e1 : col + 1 ≤ 39
  ·have e1' : IntKind.i64.wrap (col + 1) ≤ 39 := by rw [wc]; exact e1
   rw [if_pos e1]
   (have fA := aI @hF (aI @hP (aI @hF3 (aI @hP3 @rT3))); have c1 := fun x1 => cL x1; refine gox ?_; clear fA c1)
   (have fA := aI @hF (aI @hP (aI @hF3 (aI @hP3 @rT3))); refine finx ?_; clear fA; try with_reducible rfl)
   all_goals first | rfl | (simp only [wc]; done) | (simp only [wc]; rfl)
  have e1' : ¬ IntKind.i64.wrap (col + 1) ≤ 39 := by rw [wc]; exact e1
  rw [if_neg e1]
  by_cases e2 : row = 0
  ·rw [if_pos e2]
   (have fA := aI @hF (aI @hP (aI @hF3 (aI @hP3 @rT3))); have c1 := fun x1 => cL x1; refine gox ?_; clear fA c1)
   (have fA := aI @hF (aI @hP (aI @hF3 (aI @hP3 @rT3))); refine finx ?_; clear fA; try with_reducible rfl)
   all_goals first | rfl | (simp only [wc]; done) | (simp only [wc]; rfl)
  rw [if_neg e2]
  have cD := fun tag => zh4 tag ⟨row, IntKind.i64.wrap (col + 1), fg, bg, flash, inv, under, conc, tall, wide, cursor, roll, masks, bells, sl3, w2, row0, col0, ⟨kind, a, b, c, d, set, code⟩⟩ ⟨hL, hr0, hr1⟩
  have hD4 : (sDown ⟨row, IntKind.i64.wrap (col + 1), fg, bg, flash, inv, under, conc, tall, wide, cursor, roll, masks, bells, sl3, w2, row0, col0, ⟨kind, a, b, c, d, set, code⟩⟩).sl.length = 1000 := zgb hL
  rw [← wc]
  generalize sDown ⟨row, IntKind.i64.wrap (col + 1), fg, bg, flash, inv, under, conc, tall, wide, cursor, roll, masks, bells, sl3, w2, row0, col0, ⟨kind, a, b, c, d, set, code⟩⟩ = s4 at cD hD4 ⊢
  obtain ⟨row4, col4, fg4, bg4, flash4, inv4, under4, conc4, tall4, wide4, cursor4, roll4, masks4, bells4, sl4, waits4, row04, col04, wr4⟩ := s4
  simp only [Scr.enc] at cD hD4 ⊢
  have hF4 := slF hD4
  have hP4 := Slot.pl sl4
  have rT4 := slR hL hD4
  (have fA := aI @hF (aI @hP (aI @hF3 (aI @hP3 (aI @rT3 (aI @hF4 (aI @hP4 @rT4)))))); have c1 := fun x1 => cL x1; have c2 := fun x1 => cD x1; refine gox ?_; clear fA c1 c2)
  (have fA := aI @hF (aI @hP (aI @hF3 (aI @hP3 (aI @rT3 (aI @hF4 (aI @hP4 @rT4)))))); refine finx ?_; clear fA; try with_reducible rfl)
  all_goals first | rfl | (simp only [wc]; done) | (simp only [wc]; rfl)
 | false =>
  simp only [Bool.not_false, Bool.true_and]
  cases tall with
  | false =>
   simp only [Bool.false_and]
   cases wide with
   | false =>
    simp only [Bool.false_and]
    replace cL := fun tag => cL tag false false (fun e => by cases e) (fun e => by cases e)
    replace hL := hL false false
    rw [show many false = 1 from rfl] at cL ⊢
    generalize laySl ⟨row, col, fg, bg, flash, inv, under, conc, false, false, cursor, roll, masks, bells, sl, w2, row0, col0, ⟨kind, a, b, c, d, set, code⟩⟩ ⟨g, f, x2, x3, x4, x5, x6, x7, x8, x9⟩ false false = sl3 at cL hL ⊢
    have hF3 := slF hL
    have hP3 := Slot.pl sl3
    have rT3 := slR hsl hL
    have wc : IntKind.i64.wrap (col + 1) = col + 1 := w_i64 (by omega) (by omega)
    unfold sEnd
    simp only
    by_cases e1 : col + 1 ≤ 39
    ·have e1' : IntKind.i64.wrap (col + 1) ≤ 39 := by rw [wc]; exact e1
     rw [if_pos e1]
     (have fA := aI @hF (aI @hP (aI @hF3 (aI @hP3 @rT3))); have c1 := fun x1 => cL x1; refine gox ?_; clear fA c1)
     (have fA := aI @hF (aI @hP (aI @hF3 (aI @hP3 @rT3))); refine finx ?_; clear fA; try with_reducible rfl)
     all_goals first | rfl | (simp only [wc]; done) | (simp only [wc]; rfl)
    have e1' : ¬ IntKind.i64.wrap (col + 1) ≤ 39 := by rw [wc]; exact e1
    rw [if_neg e1]
    by_cases e2 : row = 0
    ·rw [if_pos e2]
     (have fA := aI @hF (aI @hP (aI @hF3 (aI @hP3 @rT3))); have c1 := fun x1 => cL x1; refine gox ?_; clear fA c1)
     (have fA := aI @hF (aI @hP (aI @hF3 (aI @hP3 @rT3))); refine finx ?_; clear fA; try with_reducible rfl)
     all_goals first | rfl | (simp only [wc]; done) | (simp only [wc]; rfl)
    rw [if_neg e2]
    have cD := fun tag => zh4 tag ⟨row, IntKind.i64.wrap (col + 1), fg, bg, flash, inv, under, conc, false, false, cursor, roll, masks, bells, sl3, w2, row0, col0, ⟨kind, a, b, c, d, set, code⟩⟩ ⟨hL, hr0, hr1⟩
    have hD4 : (sDown ⟨row, IntKind.i64.wrap (col + 1), fg, bg, flash, inv, under, conc, false, false, cursor, roll, masks, bells, sl3, w2, row0, col0, ⟨kind, a, b, c, d, set, code⟩⟩).sl.length = 1000 := zgb hL
    rw [← wc]
    generalize sDown ⟨row, IntKind.i64.wrap (col + 1), fg, bg, flash, inv, under, conc, false, false, cursor, roll, masks, bells, sl3, w2, row0, col0, ⟨kind, a, b, c, d, set, code⟩⟩ = s4 at cD hD4 ⊢
    obtain ⟨row4, col4, fg4, bg4, flash4, inv4, under4, conc4, tall4, wide4, cursor4, roll4, masks4, bells4, sl4, waits4, row04, col04, wr4⟩ := s4
    simp only [Scr.enc] at cD hD4 ⊢
    have hF4 := slF hD4
    have hP4 := Slot.pl sl4
    have rT4 := slR hL hD4
    (have fA := aI @hF (aI @hP (aI @hF3 (aI @hP3 (aI @rT3 (aI @hF4 (aI @hP4 @rT4)))))); have c1 := fun x1 => cL x1; have c2 := fun x1 => cD x1; refine gox ?_; clear fA c1 c2)
    (have fA := aI @hF (aI @hP (aI @hF3 (aI @hP3 (aI @rT3 (aI @hF4 (aI @hP4 @rT4)))))); refine finx ?_; clear fA; try with_reducible rfl)
    all_goals first | rfl | (simp only [wc]; done) | (simp only [wc]; rfl)
   | true =>
    simp only [Bool.true_and]
    replace cL := fun tag => cL tag false (decide (col < 39)) (fun e => by cases e) (fun e => of_decide_eq_true e)
    replace hL := hL false (decide (col < 39))
    have hn : 1 ≤ many (decide (col < 39)) ∧ many (decide (col < 39)) ≤ 2 := by unfold many; split <;> omega
    generalize many (decide (col < 39)) = n at cL hn ⊢
    obtain ⟨hn1, hn2⟩ := hn
    generalize laySl ⟨row, col, fg, bg, flash, inv, under, conc, false, true, cursor, roll, masks, bells, sl, w2, row0, col0, ⟨kind, a, b, c, d, set, code⟩⟩ ⟨g, f, x2, x3, x4, x5, x6, x7, x8, x9⟩ false (decide (col < 39)) = sl3 at cL hL ⊢
    have hF3 := slF hL
    have hP3 := Slot.pl sl3
    have rT3 := slR hsl hL
    have wc : IntKind.i64.wrap (col + n) = col + n := w_i64 (by omega) (by omega)
    unfold sEnd
    simp only
    by_cases e1 : col + n ≤ 39
    ·have e1' : IntKind.i64.wrap (col + n) ≤ 39 := by rw [wc]; exact e1
     rw [if_pos e1]
     (have fA := aI @hF (aI @hP (aI @hF3 (aI @hP3 @rT3))); have c1 := fun x1 => cL x1; refine gox ?_; clear fA c1)
     (have fA := aI @hF (aI @hP (aI @hF3 (aI @hP3 @rT3))); refine finx ?_; clear fA; try with_reducible rfl)
     all_goals first | rfl | (simp only [wc]; done) | (simp only [wc]; rfl)
    have e1' : ¬ IntKind.i64.wrap (col + n) ≤ 39 := by rw [wc]; exact e1
    rw [if_neg e1]
    by_cases e2 : row = 0
    ·rw [if_pos e2]
     (have fA := aI @hF (aI @hP (aI @hF3 (aI @hP3 @rT3))); have c1 := fun x1 => cL x1; refine gox ?_; clear fA c1)
     (have fA := aI @hF (aI @hP (aI @hF3 (aI @hP3 @rT3))); refine finx ?_; clear fA; try with_reducible rfl)
     all_goals first | rfl | (simp only [wc]; done) | (simp only [wc]; rfl)
    rw [if_neg e2]
    have cD := fun tag => zh4 tag ⟨row, IntKind.i64.wrap (col + n), fg, bg, flash, inv, under, conc, false, true, cursor, roll, masks, bells, sl3, w2, row0, col0, ⟨kind, a, b, c, d, set, code⟩⟩ ⟨hL, hr0, hr1⟩
    have hD4 : (sDown ⟨row, IntKind.i64.wrap (col + n), fg, bg, flash, inv, under, conc, false, true, cursor, roll, masks, bells, sl3, w2, row0, col0, ⟨kind, a, b, c, d, set, code⟩⟩).sl.length = 1000 := zgb hL
    rw [← wc]
    generalize sDown ⟨row, IntKind.i64.wrap (col + n), fg, bg, flash, inv, under, conc, false, true, cursor, roll, masks, bells, sl3, w2, row0, col0, ⟨kind, a, b, c, d, set, code⟩⟩ = s4 at cD hD4 ⊢
    obtain ⟨row4, col4, fg4, bg4, flash4, inv4, under4, conc4, tall4, wide4, cursor4, roll4, masks4, bells4, sl4, waits4, row04, col04, wr4⟩ := s4
    simp only [Scr.enc] at cD hD4 ⊢
    have hF4 := slF hD4
    have hP4 := Slot.pl sl4
    have rT4 := slR hL hD4
    (have fA := aI @hF (aI @hP (aI @hF3 (aI @hP3 (aI @rT3 (aI @hF4 (aI @hP4 @rT4)))))); have c1 := fun x1 => cL x1; have c2 := fun x1 => cD x1; refine gox ?_; clear fA c1 c2)
    (have fA := aI @hF (aI @hP (aI @hF3 (aI @hP3 (aI @rT3 (aI @hF4 (aI @hP4 @rT4)))))); refine finx ?_; clear fA; try with_reducible rfl)
    all_goals first | rfl | (simp only [wc]; done) | (simp only [wc]; rfl)
  | true =>
   simp only [Bool.true_and]
   cases wide with
   | false =>
    simp only [Bool.false_and]
    replace cL := fun tag => cL tag (decide (row > 1)) false (fun e => of_decide_eq_true e) (fun e => by cases e)
    replace hL := hL (decide (row > 1)) false
    rw [show many false = 1 from rfl] at cL ⊢
    generalize laySl ⟨row, col, fg, bg, flash, inv, under, conc, true, false, cursor, roll, masks, bells, sl, w2, row0, col0, ⟨kind, a, b, c, d, set, code⟩⟩ ⟨g, f, x2, x3, x4, x5, x6, x7, x8, x9⟩ (decide (row > 1)) false = sl3 at cL hL ⊢
    have hF3 := slF hL
    have hP3 := Slot.pl sl3
    have rT3 := slR hsl hL
    have wc : IntKind.i64.wrap (col + 1) = col + 1 := w_i64 (by omega) (by omega)
    unfold sEnd
    simp only
    by_cases e1 : col + 1 ≤ 39
    ·have e1' : IntKind.i64.wrap (col + 1) ≤ 39 := by rw [wc]; exact e1
     rw [if_pos e1]
     (have fA := aI @hF (aI @hP (aI @hF3 (aI @hP3 @rT3))); have c1 := fun x1 => cL x1; refine gox ?_; clear fA c1)
     (have fA := aI @hF (aI @hP (aI @hF3 (aI @hP3 @rT3))); refine finx ?_; clear fA; try with_reducible rfl)
     all_goals first | rfl | (simp only [wc]; done) | (simp only [wc]; rfl)
    have e1' : ¬ IntKind.i64.wrap (col + 1) ≤ 39 := by rw [wc]; exact e1
    rw [if_neg e1]
    by_cases e2 : row = 0
    ·rw [if_pos e2]
     (have fA := aI @hF (aI @hP (aI @hF3 (aI @hP3 @rT3))); have c1 := fun x1 => cL x1; refine gox ?_; clear fA c1)
     (have fA := aI @hF (aI @hP (aI @hF3 (aI @hP3 @rT3))); refine finx ?_; clear fA; try with_reducible rfl)
     all_goals first | rfl | (simp only [wc]; done) | (simp only [wc]; rfl)
    rw [if_neg e2]
    have cD := fun tag => zh4 tag ⟨row, IntKind.i64.wrap (col + 1), fg, bg, flash, inv, under, conc, true, false, cursor, roll, masks, bells, sl3, w2, row0, col0, ⟨kind, a, b, c, d, set, code⟩⟩ ⟨hL, hr0, hr1⟩
    have hD4 : (sDown ⟨row, IntKind.i64.wrap (col + 1), fg, bg, flash, inv, under, conc, true, false, cursor, roll, masks, bells, sl3, w2, row0, col0, ⟨kind, a, b, c, d, set, code⟩⟩).sl.length = 1000 := zgb hL
    rw [← wc]
    generalize sDown ⟨row, IntKind.i64.wrap (col + 1), fg, bg, flash, inv, under, conc, true, false, cursor, roll, masks, bells, sl3, w2, row0, col0, ⟨kind, a, b, c, d, set, code⟩⟩ = s4 at cD hD4 ⊢
    obtain ⟨row4, col4, fg4, bg4, flash4, inv4, under4, conc4, tall4, wide4, cursor4, roll4, masks4, bells4, sl4, waits4, row04, col04, wr4⟩ := s4
    simp only [Scr.enc] at cD hD4 ⊢
    have hF4 := slF hD4
    have hP4 := Slot.pl sl4
    have rT4 := slR hL hD4
    (have fA := aI @hF (aI @hP (aI @hF3 (aI @hP3 (aI @rT3 (aI @hF4 (aI @hP4 @rT4)))))); have c1 := fun x1 => cL x1; have c2 := fun x1 => cD x1; refine gox ?_; clear fA c1 c2)
    (have fA := aI @hF (aI @hP (aI @hF3 (aI @hP3 (aI @rT3 (aI @hF4 (aI @hP4 @rT4)))))); refine finx ?_; clear fA; try with_reducible rfl)
    all_goals first | rfl | (simp only [wc]; done) | (simp only [wc]; rfl)
   | true =>
    simp only [Bool.true_and]
    replace cL := fun tag => cL tag (decide (row > 1)) (decide (col < 39)) (fun e => of_decide_eq_true e) (fun e => of_decide_eq_true e)
    replace hL := hL (decide (row > 1)) (decide (col < 39))
    have hn : 1 ≤ many (decide (col < 39)) ∧ many (decide (col < 39)) ≤ 2 := by unfold many; split <;> omega
    generalize many (decide (col < 39)) = n at cL hn ⊢
    obtain ⟨hn1, hn2⟩ := hn
    generalize laySl ⟨row, col, fg, bg, flash, inv, under, conc, true, true, cursor, roll, masks, bells, sl, w2, row0, col0, ⟨kind, a, b, c, d, set, code⟩⟩ ⟨g, f, x2, x3, x4, x5, x6, x7, x8, x9⟩ (decide (row > 1)) (decide (col < 39)) = sl3 at cL hL ⊢
    have hF3 := slF hL
    have hP3 := Slot.pl sl3
    have rT3 := slR hsl hL
    have wc : IntKind.i64.wrap (col + n) = col + n := w_i64 (by omega) (by omega)
    unfold sEnd
    simp only
    by_cases e1 : col + n ≤ 39
    ·have e1' : IntKind.i64.wrap (col + n) ≤ 39 := by rw [wc]; exact e1
     rw [if_pos e1]
     (have fA := aI @hF (aI @hP (aI @hF3 (aI @hP3 @rT3))); have c1 := fun x1 => cL x1; refine gox ?_; clear fA c1)
     (have fA := aI @hF (aI @hP (aI @hF3 (aI @hP3 @rT3))); refine finx ?_; clear fA; try with_reducible rfl)
     all_goals first | rfl | (simp only [wc]; done) | (simp only [wc]; rfl)
    have e1' : ¬ IntKind.i64.wrap (col + n) ≤ 39 := by rw [wc]; exact e1
    rw [if_neg e1]
    by_cases e2 : row = 0
    ·rw [if_pos e2]
     (have fA := aI @hF (aI @hP (aI @hF3 (aI @hP3 @rT3))); have c1 := fun x1 => cL x1; refine gox ?_; clear fA c1)
     (have fA := aI @hF (aI @hP (aI @hF3 (aI @hP3 @rT3))); refine finx ?_; clear fA; try with_reducible rfl)
     all_goals first | rfl | (simp only [wc]; done) | (simp only [wc]; rfl)
    rw [if_neg e2]
    have cD := fun tag => zh4 tag ⟨row, IntKind.i64.wrap (col + n), fg, bg, flash, inv, under, conc, true, true, cursor, roll, masks, bells, sl3, w2, row0, col0, ⟨kind, a, b, c, d, set, code⟩⟩ ⟨hL, hr0, hr1⟩
    have hD4 : (sDown ⟨row, IntKind.i64.wrap (col + n), fg, bg, flash, inv, under, conc, true, true, cursor, roll, masks, bells, sl3, w2, row0, col0, ⟨kind, a, b, c, d, set, code⟩⟩).sl.length = 1000 := zgb hL
    rw [← wc]
    generalize sDown ⟨row, IntKind.i64.wrap (col + n), fg, bg, flash, inv, under, conc, true, true, cursor, roll, masks, bells, sl3, w2, row0, col0, ⟨kind, a, b, c, d, set, code⟩⟩ = s4 at cD hD4 ⊢
    obtain ⟨row4, col4, fg4, bg4, flash4, inv4, under4, conc4, tall4, wide4, cursor4, roll4, masks4, bells4, sl4, waits4, row04, col04, wr4⟩ := s4
    simp only [Scr.enc] at cD hD4 ⊢
    have hF4 := slF hD4
    have hP4 := Slot.pl sl4
    have rT4 := slR hL hD4
    (have fA := aI @hF (aI @hP (aI @hF3 (aI @hP3 (aI @rT3 (aI @hF4 (aI @hP4 @rT4)))))); have c1 := fun x1 => cL x1; have c2 := fun x1 => cD x1; refine gox ?_; clear fA c1 c2)
    (have fA := aI @hF (aI @hP (aI @hF3 (aI @hP3 (aI @rT3 (aI @hF4 (aI @hP4 @rT4)))))); refine finx ?_; clear fA; try with_reducible rfl)
    all_goals first | rfl | (simp only [wc]; done) | (simp only [wc]; rfl)
end
section
attribute [local simp] Ev.flen Ev.rd Ev.enc Slot.flen Slot.rd Slot.pute Slot.zero Slot.enc
def cl63 (m : Int) : Int := if 63 < (if 0 > m then 0 else m) then 63 else (if 0 > m then 0 else m)
def sAgain (s : Scr) (m : Int) : Scr := if s.wr.kind = 1 then rep (fun s => sWrite s s.wr) (cl63 m).toNat s else s
theorem cl63_rng (m : Int) : 0 ≤ cl63 m ∧ cl63 m ≤ 63 := by
 unfold cl63
 repeat' split
 all_goals omega
theorem Scr.Ok.again {s : Scr} (h : s.Ok) (m : Int) : (sAgain s m).Ok := by
 unfold sAgain
 split
 ·exact Scr.Ok.rep (fun s hs => hs.write s.wr) _ h
 ·exact h
theorem enc_wr {s : Scr} (h : s.Ok) : List.take 7 (List.drop 10017 s.enc) = s.wr.enc := by
 have hF := slF h.sl
 obtain ⟨_, _, _, _, _, _, _, _, _, hd, _⟩ := hF
 have e : List.drop 10017 s.enc = List.drop 10003 (flat Slot.enc s.sl ++ [.bool s.waits, .int .i64 s.row0, .int .i64 s.col0, .int .i64 s.wr.kind, .int .i64 s.wr.a, .int .i64 s.wr.b, .int .i64 s.wr.c, .int .i64 s.wr.d, .int .i64 s.wr.set, .int .i64 s.wr.code]) := rfl
 rw [e, hd]
 rfl
def sEvent (s : Scr) (e : Ev) : Scr :=
 if e.kind = 1 then sWrite s e else if e.kind = 7 then sAgain s e.a else if e.kind = 2 then sMove s e.a e.b else if e.kind = 3 then sClear s e.a else if e.kind = 4 then sHome s else
 if e.kind = 5 then sGoto s e.a e.b else if e.kind = 6 then sAttr s e.a else if e.kind = 8 then { s with bells := IntKind.i64.wrap (s.bells + 1) } else if e.kind = 9 then { s with cursor := decide (e.a = 1) } else
 if e.kind = 11 then (if e.a = 1 then sErasePage s e.b else if e.a = 2 then sEraseRow s e.b else s) else s
theorem Scr.Ok.event {s : Scr} (h : s.Ok) (e : Ev) : (sEvent s e).Ok := by
 unfold sEvent
 by_cases q1 : e.kind = 1
 ·rw [if_pos q1]; exact h.write e
 rw [if_neg q1]
 by_cases q7 : e.kind = 7
 ·rw [if_pos q7]; exact h.again _
 rw [if_neg q7]
 by_cases q2 : e.kind = 2
 ·rw [if_pos q2]; exact h.move _ _
 rw [if_neg q2]
 by_cases q3 : e.kind = 3
 ·rw [if_pos q3]; exact h.clear _
 rw [if_neg q3]
 by_cases q4 : e.kind = 4
 ·rw [if_pos q4]; exact h.home
 rw [if_neg q4]
 by_cases q5 : e.kind = 5
 ·rw [if_pos q5]; exact h.goto _ _
 rw [if_neg q5]
 by_cases q6 : e.kind = 6
 ·rw [if_pos q6]; exact h.attr _
 rw [if_neg q6]
 by_cases q8 : e.kind = 8
 ·rw [if_pos q8]; exact ⟨h.sl, h.r0, h.r1, h.c0, h.c1, h.q0, h.q1, h.d0, h.d1⟩
 rw [if_neg q8]
 by_cases q9 : e.kind = 9
 ·rw [if_pos q9]; exact ⟨h.sl, h.r0, h.r1, h.c0, h.c1, h.q0, h.q1, h.d0, h.d1⟩
 rw [if_neg q9]
 by_cases q11 : e.kind = 11
 ·rw [if_pos q11]
  by_cases qa : e.a = 1
  ·rw [if_pos qa]; exact h.erasePage _
  rw [if_neg qa]
  by_cases qb : e.a = 2
  ·rw [if_pos qb]; exact h.eraseRow _
  rw [if_neg qb]; exact h
 rw [if_neg q11]; exact h
theorem t_again (tag : Nat) (s : Scr) (hs : s.Ok) (m : Int) : callω L T 185 tag [.ref 0 (tag, 0) 0, .int .i64 m] [some s.enc, none] = some (.tup [], [some (sAgain s m).enc, none]) := by
 unfold sAgain
 by_cases qk : s.wr.kind = 1
 ·rw [if_pos qk]
  have hcl := cl63_rng m
  obtain ⟨n, hn⟩ : ∃ n : Nat, cl63 m = n := ⟨(cl63 m).toNat, by omega⟩
  rw [hn, Int.toNat_natCast]
  have hn1 : n ≤ 63 := by omega
  obtain ⟨s0, e0⟩ : ∃ s0, s0 = s := ⟨s, rfl⟩
  obtain ⟨row, col, fg, bg, flash, inv, under, conc, tall, wide, cursor, roll, masks, bells, sl, waits, row0, col0, wr⟩ := s
  obtain ⟨hsl, hr0, hr1, hc0, hc1, hq0, hq1, hd0, hd1⟩ := hs
  simp only at hsl hr0 hr1 hc0 hc1 hq0 hq1 hd0 hd1
  have hF := slF hsl
  have hP := Slot.pl sl
  have es : ⟨row, col, fg, bg, flash, inv, under, conc, tall, wide, cursor, roll, masks, bells, sl, waits, row0, col0, wr⟩ = s0 := e0.symm
  rw [es]
  simp only [Scr.enc]
  rw [za5 (show T 185 = some (.code a185) from rfl) rfl rfl]
  have qk0 : s0.wr.kind = 1 := by rw [e0]; exact qk
  have hF0 := slF (sl := s0.sl) (by rw [e0]; exact hsl)
  (have fA := @hF0; refine gox ?_; clear fA)
  refine Eq.trans (zaa (env' := [(0, .ref 0 (tag, 0) 0), (12, .int .i64 (n : Nat)), (13, .int .i64 0)]) (by rw [← hn]; rfl) rfl rfl) ?_
  refine Eq.trans (znh (X := Scr) (fun _ s => s.Ok) (fun k s => ⟨[(0, .ref 0 (tag, 0) 0), (12, .int .i64 (n : Nat)), (13, .int .i64 (k : Nat))], [(0, ⟨(tag, 0), s.enc⟩)], 1, tag⟩) n
   (fun k s => some (.tup [], [some (rep (fun s => sWrite s s.wr) (n - k) s).enc, none])) ?_ ?_ 0 (by omega) s0 (by rw [e0]; exact ⟨hsl, hr0, hr1, hc0, hc1, hq0, hq1, hd0, hd1⟩)) ?_
  ·intro k x hk hx ih
   have ih := ih (sWrite x x.wr) (hx.write x.wr)
   rw [show n - k = (n - (k + 1)) + 1 from by omega]
   show _ = some (AV.tup [], [some (rep (fun s => sWrite s s.wr) (n - (k + 1)) (sWrite x x.wr)).enc, none])
   have hk' : (k : Int) < (n : Int) := by omega
   have hw : IntKind.i64.wrap ((k : Int) + 1) = ((k + 1 : Nat) : Int) := zah hk (by omega)
   have cR := fun tag => t_write tag x hx x.wr
   have l1 := zam hx
   have l2 := zam (hx.write x.wr)
   have r1 := zbv hx
   have r2 := zb2 hx (hx.write x.wr)
   have r3 := enc_wr hx
   generalize x.enc = X at *
   generalize sWrite x x.wr = y at *
   generalize x.wr = e at *
   refine Eq.trans ?_ ih
   (have fA := aI @hw (aI @l1 (aI @l2 (aI @r1 (aI @r2 @r3)))); have c1 := fun x1 => cR x1; refine gox ?_; clear fA c1)
   refine zaa ?_ rfl rfl
   rw [hw]
  ·intro x hx
   rw [Nat.sub_self]
   have l1 := zam hx
   have p1 := enc_pl hx
   show _ = some (AV.tup [], [some x.enc, none])
   generalize x.enc = X at *
   (have fA := @l1; refine gox ?_; clear fA)
   (have fA := aI @hF0 (aI @l1 @p1); refine finx ?_; clear fA; try with_reducible rfl)
   try rfl
  ·rw [e0]; rfl
 ·rw [if_neg qk]
  obtain ⟨row, col, fg, bg, flash, inv, under, conc, tall, wide, cursor, roll, masks, bells, sl, waits, row0, col0, wr⟩ := s
  obtain ⟨hsl, hr0, hr1, hc0, hc1, hq0, hq1, hd0, hd1⟩ := hs
  simp only at hsl hr0 hr1 hc0 hc1 hq0 hq1 hd0 hd1
  have hF := slF hsl
  have hP := Slot.pl sl
  simp only [Scr.enc]
  rw [za5 (show T 185 = some (.code a185) from rfl) rfl rfl]
  (have fA := aI @hF @hP; refine gox ?_; clear fA)
  (have fA := aI @hF @hP; refine finx ?_; clear fA; try with_reducible rfl)
  all_goals first | rfl | (simp []; done)
theorem zps (tag : Nat) (s : Scr) (hs : s.Ok) (a : Int) : callω L T 191 tag [.ref 0 (tag, 0) 0, .int .i64 a] [some s.enc, none] = some (.tup [], [some (sErasePage s a).enc, none]) := by
 have h1 := hs.r0
 have h2 := hs.r1
 obtain ⟨R, hR⟩ : ∃ R : Nat, s.row = R := ⟨s.row.toNat, by omega⟩
 have e1 : ((R : Int) + 1).toNat = R + 1 := by omega
 have e2 : (24 - (R : Int)).toNat = 24 - R := by omega
 have e3 : ((R : Int) - 1).toNat = R - 1 := by omega
 have g0 : s.enc[0]? = some (.int .i64 (R : Int)) := by rw [← hR]; rfl
 have w1 : IntKind.i64.wrap ((R : Int) + 1) = ((R + 1 : Nat) : Int) := by rw [w_i64 (by omega) (by omega)]; omega
 have w2 : IntKind.i64.wrap ((R : Int) - 1) = (R : Int) - 1 := w_i64 (by omega) (by omega)
 unfold sErasePage
 rw [hR, e1, e2, e3]
 have l1 := zam hs
 have p1 := enc_pl hs
 have r1 := zbv hs
 by_cases q : a = 0
 ·subst q
  rw [if_pos rfl]
  by_cases q2 : (R : Int) > 0
  ·rw [if_pos q2]
   have k2 := hs.wipeR (f := R + 1) (n := 24 - R) (by omega)
   have cW : ∀ tag, callω L T 236 tag [.ref 0 (tag, 0) 0, .int .i64 (IntKind.i64.wrap ((R : Int) + 1)), .int .i64 24] [some s.enc, none, none] = some (.tup [], [some (sWipeR s (R + 1) (24 - R)).enc, none, none]) := fun tag => by rw [w1]; exact zf8 tag s hs (R + 1) (24 - R) 24 (by omega) (by omega) (by omega)
   generalize sWipeR s (R + 1) (24 - R) = y at *
   have cE := fun tag => zf4 tag y k2 0
   have k3 := k2.eraseRow 0
   have l2 := zam k2
   have r2 := zbv k2
   have s2 := zb2 hs k2
   have l3 := zam k3
   have s3 := zb2 k2 k3
   have p3 := enc_pl k3
   generalize sEraseRow y 0 = z at *
   generalize s.enc = X at *
   generalize y.enc = Y at *
   generalize z.enc = Z at *
   rw [za5 (show T 191 = some (.code a191) from rfl) rfl rfl]
   (have fA := aI @l1 (aI @r1 (aI @g0 (aI @l2 (aI @r2 (aI @s2 (aI @l3 @s3)))))); have c1 := fun x1 => cW x1; have c2 := fun x1 => cE x1; refine gox ?_; clear fA c1 c2)
   (have fA := aI @l1 (aI @l3 @p3); refine finx ?_; clear fA; try with_reducible rfl)
   try rfl
  ·rw [if_neg q2]
   have cE := fun tag => zf4 tag s hs 0
   have k3 := hs.eraseRow 0
   have l3 := zam k3
   have s3 := zb2 hs k3
   have p3 := enc_pl k3
   generalize sEraseRow s 0 = z at *
   generalize s.enc = X at *
   generalize z.enc = Z at *
   rw [za5 (show T 191 = some (.code a191) from rfl) rfl rfl]
   (have fA := aI @l1 (aI @r1 (aI @g0 (aI @l3 @s3))); have c1 := fun x1 => cE x1; refine gox ?_; clear fA c1)
   (have fA := aI @l1 (aI @l3 @p3); refine finx ?_; clear fA; try with_reducible rfl)
   try rfl
 rw [if_neg q]
 by_cases q1 : a = 1
 ·subst q1
  rw [if_pos rfl]
  have k2 := hs.wipeR (f := 1) (n := R - 1) (by omega)
  have cW : ∀ tag, callω L T 236 tag [.ref 0 (tag, 0) 0, .int .i64 1, .int .i64 (IntKind.i64.wrap ((R : Int) - 1))] [some s.enc, none, none] = some (.tup [], [some (sWipeR s 1 (R - 1)).enc, none, none]) := fun tag => by rw [w2]; exact zf8 tag s hs 1 (R - 1) ((R : Int) - 1) (by omega) (by omega) (by omega)
  generalize sWipeR s 1 (R - 1) = y at *
  have cE := fun tag => zf4 tag y k2 1
  have k3 := k2.eraseRow 1
  have l2 := zam k2
  have r2 := zbv k2
  have s2 := zb2 hs k2
  have l3 := zam k3
  have s3 := zb2 k2 k3
  have p3 := enc_pl k3
  generalize sEraseRow y 1 = z at *
  generalize s.enc = X at *
  generalize y.enc = Y at *
  generalize z.enc = Z at *
  rw [za5 (show T 191 = some (.code a191) from rfl) rfl rfl]
  (have fA := aI @l1 (aI @r1 (aI @g0 (aI @l2 (aI @r2 (aI @s2 (aI @l3 @s3)))))); have c1 := fun x1 => cW x1; have c2 := fun x1 => cE x1; refine gox ?_; clear fA c1 c2)
  (have fA := aI @l1 (aI @l3 @p3); refine finx ?_; clear fA; try with_reducible rfl)
  try rfl
 rw [if_neg q1]
 by_cases q2 : a = 2
 ·subst q2
  rw [if_pos rfl]
  have k2 := hs.wipeR (f := 1) (n := 24) (by omega)
  have cW := fun tag => zf8 tag s hs 1 24 24 (by omega) (by omega) (by omega)
  have l2 := zam k2
  have s2 := zb2 hs k2
  have p2 := enc_pl k2
  generalize sWipeR s 1 24 = y at *
  generalize s.enc = X at *
  generalize y.enc = Y at *
  rw [za5 (show T 191 = some (.code a191) from rfl) rfl rfl]
  (have fA := aI @l1 (aI @r1 (aI @l2 @s2)); have c1 := fun x1 => cW x1; refine gox ?_; clear fA c1)
  (have fA := aI @l1 (aI @l2 @p2); refine finx ?_; clear fA; try with_reducible rfl)
  try rfl
 rw [if_neg q2]
 generalize s.enc = X at *
 rw [za5 (show T 191 = some (.code a191) from rfl) rfl rfl]
 (have fA := @l1; refine gox ?_; clear fA)
 (have fA := aI @l1 @p1; refine finx ?_; clear fA; try with_reducible rfl)
 try rfl
theorem t_Event (tag : Nat) (s : Scr) (hs : s.Ok) (e : Ev) : callω L T 137 tag [.ref 0 (tag, 0) 0, .agg e.enc] [some s.enc, none] = some (.tup [], [some (sEvent s e).enc, none]) := by
 obtain ⟨kind, a, b, c, d, set, code⟩ := e
 unfold sEvent
 simp only
 have l1 := zam hs
 have p1 := enc_pl hs
 have r1 := zbv hs
 by_cases q1 : kind = 1
 ·subst q1
  rw [if_pos rfl]
  have cR := fun tag => t_write tag s hs ⟨1, a, b, c, d, set, code⟩
  have k2 := hs.write ⟨1, a, b, c, d, set, code⟩
  have l2 := zam k2
  have s2 := zb2 hs k2
  have p2 := enc_pl k2
  generalize sWrite s ⟨1, a, b, c, d, set, code⟩ = y at *
  generalize s.enc = X at *
  generalize y.enc = Y at *
  simp only [Ev.enc] at cR ⊢
  rw [za5 (show T 137 = some (.code a137) from rfl) rfl rfl]
  (have fA := aI @l1 (aI @r1 (aI @l2 @s2)); have c1 := fun x1 => cR x1; refine gox ?_; clear fA c1)
  (have fA := aI @l1 (aI @l2 @p2); refine finx ?_; clear fA; try with_reducible rfl)
  all_goals first | rfl
 rw [if_neg q1]
 by_cases q7 : kind = 7
 ·subst q7
  rw [if_pos rfl]
  have cR := fun tag => t_again tag s hs a
  have k2 := hs.again a
  have l2 := zam k2
  have s2 := zb2 hs k2
  have p2 := enc_pl k2
  generalize sAgain s a = y at *
  generalize s.enc = X at *
  generalize y.enc = Y at *
  simp only [Ev.enc] at cR ⊢
  rw [za5 (show T 137 = some (.code a137) from rfl) rfl rfl]
  (have fA := aI @l1 (aI @r1 (aI @l2 @s2)); have c1 := fun x1 => cR x1; refine gox ?_; clear fA c1)
  (have fA := aI @l1 (aI @l2 @p2); refine finx ?_; clear fA; try with_reducible rfl)
  all_goals first | rfl
 rw [if_neg q7]
 by_cases q2 : kind = 2
 ·subst q2
  rw [if_pos rfl]
  have cR := fun tag => t_move tag s hs a b
  have k2 := hs.move a b
  have l2 := zam k2
  have s2 := zb2 hs k2
  have p2 := enc_pl k2
  generalize sMove s a b = y at *
  generalize s.enc = X at *
  generalize y.enc = Y at *
  simp only [Ev.enc] at cR ⊢
  rw [za5 (show T 137 = some (.code a137) from rfl) rfl rfl]
  (have fA := aI @l1 (aI @r1 (aI @l2 @s2)); have c1 := fun x1 => cR x1; refine gox ?_; clear fA c1)
  (have fA := aI @l1 (aI @l2 @p2); refine finx ?_; clear fA; try with_reducible rfl)
  all_goals first | rfl
 rw [if_neg q2]
 by_cases q3 : kind = 3
 ·subst q3
  rw [if_pos rfl]
  have cR := fun tag => t_clear tag s hs a
  have k2 := hs.clear a
  have l2 := zam k2
  have s2 := zb2 hs k2
  have p2 := enc_pl k2
  generalize sClear s a = y at *
  generalize s.enc = X at *
  generalize y.enc = Y at *
  simp only [Ev.enc] at cR ⊢
  rw [za5 (show T 137 = some (.code a137) from rfl) rfl rfl]
  (have fA := aI @l1 (aI @r1 (aI @l2 @s2)); have c1 := fun x1 => cR x1; refine gox ?_; clear fA c1)
  (have fA := aI @l1 (aI @l2 @p2); refine finx ?_; clear fA; try with_reducible rfl)
  all_goals first | rfl
 rw [if_neg q3]
 by_cases q4 : kind = 4
 ·subst q4
  rw [if_pos rfl]
  have cR := fun tag => t_home tag s hs
  have k2 := hs.home
  have l2 := zam k2
  have s2 := zb2 hs k2
  have p2 := enc_pl k2
  generalize sHome s = y at *
  generalize s.enc = X at *
  generalize y.enc = Y at *
  simp only [Ev.enc] at cR ⊢
  rw [za5 (show T 137 = some (.code a137) from rfl) rfl rfl]
  (have fA := aI @l1 (aI @r1 (aI @l2 @s2)); have c1 := fun x1 => cR x1; refine gox ?_; clear fA c1)
  (have fA := aI @l1 (aI @l2 @p2); refine finx ?_; clear fA; try with_reducible rfl)
  all_goals first | rfl
 rw [if_neg q4]
 by_cases q5 : kind = 5
 ·subst q5
  rw [if_pos rfl]
  have cR := fun tag => t_goTo tag s hs a b
  have k2 := hs.goto a b
  have l2 := zam k2
  have s2 := zb2 hs k2
  have p2 := enc_pl k2
  generalize sGoto s a b = y at *
  generalize s.enc = X at *
  generalize y.enc = Y at *
  simp only [Ev.enc] at cR ⊢
  rw [za5 (show T 137 = some (.code a137) from rfl) rfl rfl]
  (have fA := aI @l1 (aI @r1 (aI @l2 @s2)); have c1 := fun x1 => cR x1; refine gox ?_; clear fA c1)
  (have fA := aI @l1 (aI @l2 @p2); refine finx ?_; clear fA; try with_reducible rfl)
  all_goals first | rfl
 rw [if_neg q5]
 by_cases q6 : kind = 6
 ·subst q6
  rw [if_pos rfl]
  have cR := fun tag => t_attr tag s hs a
  have k2 := hs.attr a
  have l2 := zam k2
  have s2 := zb2 hs k2
  have p2 := enc_pl k2
  generalize sAttr s a = y at *
  generalize s.enc = X at *
  generalize y.enc = Y at *
  simp only [Ev.enc] at cR ⊢
  rw [za5 (show T 137 = some (.code a137) from rfl) rfl rfl]
  (have fA := aI @l1 (aI @r1 (aI @l2 @s2)); have c1 := fun x1 => cR x1; refine gox ?_; clear fA c1)
  (have fA := aI @l1 (aI @l2 @p2); refine finx ?_; clear fA; try with_reducible rfl)
  all_goals first | rfl
 rw [if_neg q6]
 by_cases q8 : kind = 8
 ·subst q8
  rw [if_pos rfl]
  clear l1 p1 r1
  obtain ⟨row, col, fg, bg, flash, inv, under, conc, tall, wide, cursor, roll, masks, bells, sl, waits, row0, col0, wr⟩ := s
  obtain ⟨hsl, hr0, hr1, hc0, hc1, hq0, hq1, hd0, hd1⟩ := hs
  simp only at hsl hr0 hr1 hc0 hc1 hq0 hq1 hd0 hd1
  have hF := slF hsl
  have hP := Slot.pl sl
  simp only [Scr.enc]
  rw [za5 (show T 137 = some (.code a137) from rfl) rfl rfl]
  (have fA := aI @hF (aI @hP @Ev.enc.eq_1); refine gox ?_; clear fA)
  (have fA := aI @hF (aI @hP @Ev.enc.eq_1); refine finx ?_; clear fA; try with_reducible rfl)
  all_goals first | rfl | (simp []; done)
 rw [if_neg q8]
 by_cases q9 : kind = 9
 ·subst q9
  rw [if_pos rfl]
  clear l1 p1 r1
  obtain ⟨row, col, fg, bg, flash, inv, under, conc, tall, wide, cursor, roll, masks, bells, sl, waits, row0, col0, wr⟩ := s
  obtain ⟨hsl, hr0, hr1, hc0, hc1, hq0, hq1, hd0, hd1⟩ := hs
  simp only at hsl hr0 hr1 hc0 hc1 hq0 hq1 hd0 hd1
  have hF := slF hsl
  have hP := Slot.pl sl
  simp only [Scr.enc]
  rw [za5 (show T 137 = some (.code a137) from rfl) rfl rfl]
  (have fA := aI @hF (aI @hP @Ev.enc.eq_1); refine gox ?_; clear fA)
  (have fA := aI @hF (aI @hP @Ev.enc.eq_1); refine finx ?_; clear fA; try with_reducible rfl)
  all_goals first | rfl | (simp []; done)
 rw [if_neg q9]
 by_cases q11 : kind = 11
 ·subst q11
  rw [if_pos rfl]
  by_cases qa1 : a = 1
  ·subst qa1
   rw [if_pos rfl]
   have cR := fun tag => zps tag s hs b
   have k2 := hs.erasePage b
   have l2 := zam k2
   have s2 := zb2 hs k2
   have p2 := enc_pl k2
   generalize sErasePage s b = y at *
   generalize s.enc = X at *
   generalize y.enc = Y at *
   simp only [Ev.enc] at cR ⊢
   rw [za5 (show T 137 = some (.code a137) from rfl) rfl rfl]
   (have fA := aI @l1 (aI @r1 (aI @l2 @s2)); have c1 := fun x1 => cR x1; refine gox ?_; clear fA c1)
   (have fA := aI @l1 (aI @l2 @p2); refine finx ?_; clear fA; try with_reducible rfl)
   all_goals first | rfl
  rw [if_neg qa1]
  by_cases qa2 : a = 2
  ·subst qa2
   rw [if_pos rfl]
   have cR := fun tag => zf4 tag s hs b
   have k2 := hs.eraseRow b
   have l2 := zam k2
   have s2 := zb2 hs k2
   have p2 := enc_pl k2
   generalize sEraseRow s b = y at *
   generalize s.enc = X at *
   generalize y.enc = Y at *
   simp only [Ev.enc] at cR ⊢
   rw [za5 (show T 137 = some (.code a137) from rfl) rfl rfl]
   (have fA := aI @l1 (aI @r1 (aI @l2 @s2)); have c1 := fun x1 => cR x1; refine gox ?_; clear fA c1)
   (have fA := aI @l1 (aI @l2 @p2); refine finx ?_; clear fA; try with_reducible rfl)
   all_goals first | rfl
  rw [if_neg qa2]
  generalize s.enc = X at *
  simp only [Ev.enc]
  rw [za5 (show T 137 = some (.code a137) from rfl) rfl rfl]
  (have fA := @l1; refine gox ?_; clear fA)
  (have fA := aI @l1 @p1; refine finx ?_; clear fA; try with_reducible rfl)
  all_goals first | rfl
 rw [if_neg q11]
 generalize s.enc = X at *
 simp only [Ev.enc]
 rw [za5 (show T 137 = some (.code a137) from rfl) rfl rfl]
 (have fA := @l1; refine gox ?_; clear fA)
 (have fA := aI @l1 @p1; refine finx ?_; clear fA; try with_reducible rfl)
 all_goals first | rfl
end
end Go.Proofs.YtbaenaalfpcaaaaGreatDoor
