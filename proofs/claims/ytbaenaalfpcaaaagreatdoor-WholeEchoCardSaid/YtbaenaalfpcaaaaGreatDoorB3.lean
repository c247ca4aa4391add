/- Part of the proof: an interpreter of the model, proved sound, and what it makes of the functions. -/
import Derived.Test.YtbaenaalfpcaaaaGreatDoorA5
import Derived.Test.YtbaenaalfpcaaaaGreatDoorA4
import Derived.Test.YtbaenaalfpcaaaaGreatDoorB1
set_option linter.unusedVariables false
set_option linter.unusedSimpArgs false
set_option maxRecDepth 100000
set_option maxHeartbeats 40000000
namespace Go.Proofs.YtbaenaalfpcaaaaGreatDoor
open Go Go.Sim
attribute [local irreducible] chk brX hX finH keyX visit packed backPk backOk backHeap stays getAll getX strX setX takeX normX fillX lendX partsX opsX callK lentK lentR giveX adoptX resX joinX headX loopX seqK blkK regK finX exOps ex eqT finMX matAll
attribute [local simp] zc2 zbg zbd zau zbm zb6 List.getElem?_cons_zero List.getElem?_cons_succ List.getElem?_nil w_i64 w_u64 w_u8 zcu bOr_u8 zcv zb3 zd0 zaj zar zao zaq zcy pl_int pl_str zcz pl_nsl zd1 zcx zag AV.cells TI.isAgg
section
def in4 (x : Int) : Bool := decide (0 ≤ x ∧ x < 4)
theorem ze4 {x : Int} (h : in4 x = true) : ∃ a : Nat, a < 4 ∧ x = a := by
 have := of_decide_eq_true h
 exact ⟨x.toNat, by omega, by omega⟩
def hearsB (m : List Bool) (to' fr : Int) : Bool := in4 to' && in4 fr && m.getD (to'.toNat * 4 + fr.toNat) false
def maySet (to' fr : Int) : Bool := in4 to' && in4 fr && !decide (to' = fr) && !decide (fr = 0)
def setB (m : List Bool) (to' fr : Int) (on : Bool) : List Bool := if maySet to' fr then m.set (to'.toNat * 4 + fr.toNat) on else m
def st4 (a b c d : Bool) : Int := 64 + a.toNat + 2 * b.toNat + 4 * c.toNat + 8 * d.toNat
def statusI (m : List Bool) (to' : Int) : Int := st4 (hearsB m to' 0) (hearsB m to' 1) (hearsB m to' 2) (hearsB m to' 3)
def startB : List Bool := [false, false, true, false, false, false, false, false, false, true, false, false, false, false, false, false]
theorem zbi (tag : Nat) (x : Int) : callω L T 135 tag [.int .i64 x] [none] = some (.bool (in4 x), [none]) := by
 rw [za5 (show T 135 = some (.code a135) from rfl) rfl rfl]
 unfold in4
 by_cases h1 : 0 ≤ x
 ·by_cases h2 : x < 4
  ·rw [decide_eq_true (show 0 ≤ x ∧ x < 4 from ⟨h1, h2⟩)]
   (have fA := aI @h1 @h2; refine gox ?_; clear fA)
   (refine finx ?_; try with_reducible rfl)
   simp [h2]
  ·rw [decide_eq_false (show ¬ (0 ≤ x ∧ x < 4) from fun h => h2 h.2)]
   (have fA := aI @h1 @h2; refine gox ?_; clear fA)
   (refine finx ?_; try with_reducible rfl)
   simp [h2]
 ·rw [decide_eq_false (show ¬ (0 ≤ x ∧ x < 4) from fun h => h1 h.1)]
  (have fA := @h1; refine gox ?_; clear fA)
  (refine finx ?_; try with_reducible rfl)
theorem zjx (tag : Nat) : callω L T 124 tag [] [] = some (.agg (startB.map .bool), []) := by
 rw [za5 (show T 124 = some (.code a124) from rfl) rfl rfl]
 (refine gox ?_)
 (have fA := @startB; refine finx ?_; clear fA; try with_reducible rfl)
 all_goals first | rfl
theorem zb9 (tag : Nat) (m : List Bool) (hm : m.length = 16) (to' fr : Int) : callω L T 88 tag [.ref 0 (tag, 0) 0, .int .i64 to', .int .i64 fr] [some (m.map .bool), none, none] = some (.bool (hearsB m to' fr), [some (m.map .bool), none, none]) := by
 rw [za5 (show T 88 = some (.code a88) from rfl) rfl rfl]
 cases h1 : in4 to' with
 | false =>
  rw [show hearsB m to' fr = false by simp [hearsB, h1]]
  (have fA := @h1; have c1 := fun x1 => zbi x1 to'; refine gox ?_; clear fA c1)
  (refine finx ?_; try with_reducible rfl)
  all_goals first | rfl
 | true =>
  cases h2 : in4 fr with
  | false =>
   rw [show hearsB m to' fr = false by simp [hearsB, h1, h2]]
   (have fA := aI @h1 @h2; have c1 := fun x1 => zbi x1 to'; have c2 := fun x1 => zbi x1 fr; refine gox ?_; clear fA c1 c2)
   (refine finx ?_; try with_reducible rfl)
   all_goals first | rfl
  | true =>
   obtain ⟨a, ha, rfl⟩ := ze4 h1
   obtain ⟨b, hb', rfl⟩ := ze4 h2
   have hi : a * 4 + b < m.length := by omega
   have hv : (m.map AV.bool)[a * 4 + b]? = some (.bool (m.getD (a * 4 + b) false)) := by
    rw [List.getElem?_map, List.getElem?_eq_getElem hi]
    simp [List.getD_eq_getElem?_getD, List.getElem?_eq_getElem hi]
   rw [show hearsB m a b = m.getD (a * 4 + b) false by simp [hearsB, h1, h2]]
   generalize m.getD (a * 4 + b) false = v at hv ⊢
   have ha2 : (a : Int) < 4 := by omega
   have hb2 : (b : Int) < 4 := by omega
   (have fA := aI @h1 (aI @h2 (aI @hi (aI @hv (aI @ha (aI @hb' (aI @ha2 @hb2)))))); have c1 := fun x1 => zbi x1 (a : Int); have c2 := fun x1 => zbi x1 (b : Int); refine gox ?_; clear fA c1 c2)
   (have fA := aI @hv (aI @hi (aI @ha @hb')); refine finx ?_; clear fA; try with_reducible rfl)
   all_goals first | rfl | (simp [hv]; done)
theorem zhp (tag : Nat) (m : List Bool) (hm : m.length = 16) (to' fr : Int) (on : Bool) : callω L T 248 tag [.ref 0 (tag, 0) 0, .int .i64 to', .int .i64 fr, .bool on] [some (m.map .bool), none, none, none] = some (.bool (maySet to' fr), [some ((setB m to' fr on).map .bool), none, none, none]) := by
 rw [za5 (show T 248 = some (.code a248) from rfl) rfl rfl]
 have cT := fun t => zbi t to'
 have cF := fun t => zbi t fr
 cases h1 : in4 to' with
 | false =>
  rw [show maySet to' fr = false by simp [maySet, h1], show setB m to' fr on = m by simp [setB, maySet, h1]]
  rw [h1] at cT
  (have fA := @h1; have c1 := fun x1 => cT x1; refine gox ?_; clear fA c1)
  (refine finx ?_; try with_reducible rfl)
  all_goals first | rfl
 | true =>
  rw [h1] at cT
  cases h2 : in4 fr with
  | false =>
   rw [show maySet to' fr = false by simp [maySet, h1, h2], show setB m to' fr on = m by simp [setB, maySet, h1, h2]]
   rw [h2] at cF
   (have fA := aI @h1 @h2; have c1 := fun x1 => cT x1; have c2 := fun x1 => cF x1; refine gox ?_; clear fA c1 c2)
   (refine finx ?_; try with_reducible rfl)
   all_goals first | rfl
  | true =>
   rw [h2] at cF
   by_cases h3 : to' = fr
   ·rw [show maySet to' fr = false by simp [maySet, h1, h2, h3], show setB m to' fr on = m by simp [setB, maySet, h1, h2, h3]]
    subst h3
    have hd : decide (to' = to') = true := by simp
    (have fA := aI @h1 (aI @h2 @hd); have c1 := fun x1 => cT x1; have c2 := fun x1 => cF x1; refine gox ?_; clear fA c1 c2)
    (refine finx ?_; try with_reducible rfl)
    all_goals first | rfl
   ·have hd : decide (to' = fr) = false := by simp [h3]
    by_cases h4 : fr = 0
    ·rw [show maySet to' fr = false by simp [maySet, h1, h2, h3, h4], show setB m to' fr on = m by simp [setB, maySet, h1, h2, h3, h4]]
     subst h4
     (have fA := aI @h1 (aI @h2 @hd); have c1 := fun x1 => cT x1; have c2 := fun x1 => cF x1; refine gox ?_; clear fA c1 c2)
     (refine finx ?_; try with_reducible rfl)
     all_goals first | rfl
    ·have h5 : maySet to' fr = true := by simp [maySet, h1, h2, h3, h4]
     have hd4 : decide (fr = 0) = false := by simp [h4]
     rw [h5, show setB m to' fr on = m.set (to'.toNat * 4 + fr.toNat) on by simp [setB, h5]]
     obtain ⟨a, ha, rfl⟩ := ze4 h1
     obtain ⟨b, hb', rfl⟩ := ze4 h2
     have hi : a * 4 + b < m.length := by omega
     have ha2 : (a : Int) < 4 := by omega
     have hb2 : (b : Int) < 4 := by omega
     have hs : setR (m.map AV.bool) (a * 4 + b) [.bool on] = (m.set (a * 4 + b) on).map .bool := by rw [zbg hi]
     simp only [Int.toNat_natCast]
     have hl : (m.map AV.bool).length = 16 := by rw [List.length_map, hm]
     have hi2 : a * 4 + b + 1 ≤ (m.map AV.bool).length := by omega
     have hm2 : (m.set (a * 4 + b) on).length = 16 := by rw [List.length_set, hm]
     generalize m.set (a * 4 + b) on = m2 at hs hm2 ⊢
     have hl2 : (m2.map AV.bool).length = 16 := by rw [List.length_map, hm2]
     have tk2 : (m2.map AV.bool).take 16 = m2.map .bool := by rw [← hm2, zag]
     (have fA := aI @h1 (aI @h2 (aI @hi (aI @hs (aI @hl (aI @hi2 (aI @ha (aI @hb' (aI @ha2 (aI @hb2 (aI @hd @hd4)))))))))); have c1 := fun x1 => cT x1; have c2 := fun x1 => cF x1; refine gox ?_; clear fA c1 c2)
     (have fA := aI @hs (aI @hi (aI @ha (aI @hb' (aI @hl2 @tk2)))); refine finx ?_; clear fA; try with_reducible rfl)
     all_goals first | rfl | (simp [hs]; done)
theorem zjr (tag : Nat) (m : List Bool) (hm : m.length = 16) (to' : Int) : callω L T 278 tag [.ref 0 (tag, 0) 0, .int .i64 to'] [some (m.map .bool), none] = some (.int .u8 (statusI m to'), [some (m.map .bool), none]) := by
 rw [za5 (show T 278 = some (.code a278) from rfl) rfl rfl]
 have c0 := fun t => zb9 t m hm to' 0
 have c1 := fun t => zb9 t m hm to' 1
 have c2 := fun t => zb9 t m hm to' 2
 have c3 := fun t => zb9 t m hm to' 3
 unfold statusI
 have hl : (m.map AV.bool).length = 16 := by rw [List.length_map, hm]
 have tk : (m.map AV.bool).take 16 = m.map .bool := by rw [← hm, zag]
 have dr : (m.map AV.bool).drop 16 = [] := List.drop_eq_nil_of_le (by simp [hm])
 have rs : setR (m.map AV.bool) 0 (m.map .bool) = m.map .bool := zbn rfl
 generalize hearsB m to' 0 = b0 at c0 ⊢
 generalize hearsB m to' 1 = b1 at c1 ⊢
 generalize hearsB m to' 2 = b2 at c2 ⊢
 generalize hearsB m to' 3 = b3 at c3 ⊢
 (refine gox ?_)
 refine Eq.trans zad ?_
 cases b0 <;> ((have fA := aI @hl (aI @tk (aI @dr @rs)); have c1 := fun x1 => c0 x1; refine gox ?_; clear fA c1); (refine nrm ?_); refine Eq.trans zad ?_; cases b1 <;> ((have fA := aI @hl (aI @tk (aI @dr @rs)); have c1 := fun x1 => c1 x1; refine gox ?_; clear fA c1); (refine nrm ?_); refine Eq.trans zad ?_; cases b2 <;> ((have fA := aI @hl (aI @tk (aI @dr @rs)); have c1 := fun x1 => c2 x1; refine gox ?_; clear fA c1); (refine nrm ?_); refine Eq.trans zad ?_; cases b3 <;> ((have fA := aI @hl (aI @tk (aI @dr @rs)); have c1 := fun x1 => c3 x1; refine gox ?_; clear fA c1); (refine nrm ?_); refine Eq.trans zad ?_; (refine gox ?_); (refine finx ?_; try with_reducible rfl); first | rfl))))
theorem zig (tag : Nat) (n at' : Int) (hn : 0 ≤ n ∧ n < 256) (ha : 0 ≤ at' ∧ at' < 256) : callω L T 279 tag [.int .u8 n, .int .i64 at'] [none, none] = some (.tup [.int .i64 (if in4 (n - at') then n - at' else 0), .bool (in4 (n - at'))], [none, none]) := by
 rw [za5 (show T 279 = some (.code a279) from rfl) rfl rfl]
 have e1 : IntKind.i64.wrap n = n := w_i64 (by omega) (by omega)
 have e2 : IntKind.i64.wrap (n - at') = n - at' := w_i64 (by omega) (by omega)
 have c := fun t => zbi t (IntKind.i64.wrap (IntKind.i64.wrap n - at'))
 cases h : in4 (n - at') with
 | false =>
  have h' : in4 (IntKind.i64.wrap (IntKind.i64.wrap n - at')) = false := by rw [e1, e2, h]
  rw [h'] at c
  (have c1 := fun x1 => c x1; refine gox ?_; clear c1)
  (refine finx ?_; try with_reducible rfl)
  all_goals first | rfl
 | true =>
  have h' : in4 (IntKind.i64.wrap (IntKind.i64.wrap n - at')) = true := by rw [e1, e2, h]
  rw [h'] at c
  (have c1 := fun x1 => c x1; refine gox ?_; clear c1)
  (refine finx ?_; try with_reducible rfl)
  rw [e1, e2]; rfl
theorem zp2 (tag : Nat) (n : Int) (h0 : 0 ≤ n) (h1 : n < 256) : callω L T 276 tag [.int .u8 n] [none] = some (.tup [.int .i64 (if in4 (n - 0x58) then n - 0x58 else 0), .bool (in4 (n - 0x58))], [none]) := by
 rw [za5 (show T 276 = some (.code a276) from rfl) rfl rfl]
 (have c1 := fun x1 => zig x1 n 88 ⟨h0, h1⟩ (by decide); refine gox ?_; clear c1)
 (refine finx ?_; try with_reducible rfl)
 all_goals first | rfl
theorem zm4 (tag : Nat) (n : Int) (h0 : 0 ≤ n) (h1 : n < 256) : callω L T 247 tag [.int .u8 n] [none] = some (.tup [.int .i64 (if in4 (n - 0x50) then n - 0x50 else 0), .bool (in4 (n - 0x50))], [none]) := by
 rw [za5 (show T 247 = some (.code a247) from rfl) rfl rfl]
 (have c1 := fun x1 => zig x1 n 80 ⟨h0, h1⟩ (by decide); refine gox ?_; clear c1)
 (refine finx ?_; try with_reducible rfl)
 all_goals first | rfl
def codeI (x : Int) (to' : Bool) : Int := if in4 x then (if to' then 0x58 else 0x50) + x else 0
theorem zm3 (tag : Nat) (x : Int) (to' : Bool) : callω L T 277 tag [.int .i64 x, .bool to'] [none, none] = some (.int .u8 (codeI x to'), [none, none]) := by
 rw [za5 (show T 277 = some (.code a277) from rfl) rfl rfl]
 have c := fun t => zbi t x
 unfold codeI
 cases h : in4 x with
 | false =>
  rw [h] at c
  (have c1 := fun x1 => c x1; refine gox ?_; clear c1)
  (refine finx ?_; try with_reducible rfl)
  all_goals first | rfl
 | true =>
  rw [h] at c
  obtain ⟨a, ha, rfl⟩ := ze4 h
  have e3 : IntKind.i64.wrap (88 + (a : Int)) = 88 + a := w_i64 (by omega) (by omega)
  have e4 : IntKind.i64.wrap (80 + (a : Int)) = 80 + a := w_i64 (by omega) (by omega)
  have e5 : IntKind.u8.wrap (88 + (a : Int)) = 88 + a := w_u8 (by omega) (by omega)
  have e6 : IntKind.u8.wrap (80 + (a : Int)) = 80 + a := w_u8 (by omega) (by omega)
  cases to' <;> ((have c1 := fun x1 => c x1; refine gox ?_; clear c1); (refine finx ?_; try with_reducible rfl); simp [e3, e4, e5, e6])
end
section
attribute [local simp] Ev.flen Ev.rd Ev.enc
structure PS where
  m : Nat → Bool
  roll : Bool
  lower : Bool
  ext : Bool
  c0 : Bool
  speed : Int
  echo : Bool
def lst (m : Nat → Bool) : List Bool := [m 0, m 1, m 2, m 3, m 4, m 5, m 6, m 7, m 8, m 9, m 10, m 11, m 12, m 13, m 14, m 15]
def PS.enc (s : PS) : List AV := [.bool (s.m 0), .bool (s.m 1), .bool (s.m 2), .bool (s.m 3), .bool (s.m 4), .bool (s.m 5), .bool (s.m 6), .bool (s.m 7), .bool (s.m 8), .bool (s.m 9), .bool (s.m 10), .bool (s.m 11), .bool (s.m 12), .bool (s.m 13), .bool (s.m 14), .bool (s.m 15), .bool s.roll, .bool s.lower, .bool s.ext, .bool s.c0, .int .u8 s.speed, .bool s.echo]
theorem zpq (m : Nat → Bool) (j : Nat) (h : j < 16) : (lst m).getD j false = m j := by
  have : j = 0 ∨ j = 1 ∨ j = 2 ∨ j = 3 ∨ j = 4 ∨ j = 5 ∨ j = 6 ∨ j = 7 ∨ j = 8 ∨ j = 9 ∨ j = 10 ∨ j = 11 ∨ j = 12 ∨ j = 13 ∨ j = 14 ∨ j = 15 := by omega
  rcases this with rfl | rfl | rfl | rfl | rfl | rfl | rfl | rfl | rfl | rfl | rfl | rfl | rfl | rfl | rfl | rfl <;> rfl
def upd (m : Nat → Bool) (to' fr : Int) (on : Bool) : Nat → Bool := fun j => if maySet to' fr = true ∧ j = to'.toNat * 4 + fr.toNat then on else m j
theorem setB_lst (m : Nat → Bool) (to' fr : Int) (on : Bool) : setB (lst m) to' fr on = lst (upd m to' fr on) := by
  unfold setB upd
  by_cases h : maySet to' fr = true
  · simp only [h, if_true, true_and]
    have h' := h
    simp only [maySet, qO5] at h'
    obtain ⟨a, ha, rfl⟩ := ze4 h'.1.1.1
    obtain ⟨b, hb, rfl⟩ := ze4 h'.1.1.2
    simp only [Int.toNat_natCast]
    apply List.ext_getElem
    · simp [lst]
    · intro i h1 h2
      have h3 : i < 16 := by simpa [lst] using h2
      have e := zpq (fun j => if j = a * 4 + b then on else m j) i h3
      have e2 := zpq m i h3
      rw [List.getD_eq_getElem?_getD, List.getElem?_eq_getElem h2, Option.getD_some] at e
      rw [e, List.getElem_set]
      rw [List.getD_eq_getElem?_getD, List.getElem?_eq_getElem (by simpa [lst] using h3), Option.getD_some] at e2
      by_cases hi : a * 4 + b = i
      · rw [if_pos hi, if_pos hi.symm]
      · rw [if_neg hi, if_neg (fun x => hi x.symm), e2]
  · simp [h]
def hears (m : Nat → Bool) (to' fr : Int) : Bool := in4 to' && in4 fr && m (to'.toNat * 4 + fr.toNat)
theorem zgh (m : Nat → Bool) (to' fr : Int) : hearsB (lst m) to' fr = hears m to' fr := by
  unfold hearsB hears
  cases h1 : in4 to' with
  | false => rfl
  | true =>
    cases h2 : in4 fr with
    | false => rfl
    | true =>
      obtain ⟨a, ha, rfl⟩ := ze4 h1
      obtain ⟨b, hb, rfl⟩ := ze4 h2
      rw [zpq m _ (by simp only [Int.toNat_natCast]; omega)]
def stat (m : Nat → Bool) (to' : Int) : Int := st4 (hears m to' 0) (hears m to' 1) (hears m to' 2) (hears m to' 3)
theorem stat_lst (m : Nat → Bool) (to' : Int) : statusI (lst m) to' = stat m to' := by unfold statusI stat; simp only [zgh]
def startM : Nat → Bool := fun j => decide (j = 2 ∨ j = 9)
theorem start_lst : startB = lst startM := by decide
def modesI (s : PS) : Int := 64 + (if s.roll then 2 else 0) + (if s.lower then 8 else 0)
def boardI (s : PS) : Int := 64 + (if s.ext then 1 else 0) + (if s.c0 then 4 else 0)
def PS.start : PS := ⟨startM, false, false, false, false, 100, false⟩
def linkL (s : PS) (md : Int) : List Int := [27, 59, 99, codeI md true, stat s.m md]
def firstF (s : PS) (b : Int) : PS × List Int :=
  if b = 112 then (s, [27, 58, 113, 74]) else if b = 114 then (s, [27, 58, 115, modesI s]) else if b = 116 then (s, [27, 58, 117, s.speed])
  else if b = 118 then (s, [27, 58, 119, 64]) else if b = 123 then (s, [1, 67, 117, 60, 4]) else if b = 127 then (PS.start, []) else (s, [])
def toI (c : Int) : Int × Bool := if 88 ≤ c ∧ c < 92 then (c - 88, true) else (0, false)
def fromI (c : Int) : Int × Bool := if 80 ≤ c ∧ c < 84 then (c - 80, true) else (0, false)
def secondF (s : PS) (b c : Int) : PS × List Int :=
  if b = 105 ∨ b = 106 then
    (if c = 67 then let t := { s with roll := decide (b = 105) }; (t, [27, 58, 115, modesI t])
     else if c = 69 then let t := { s with lower := decide (b = 105) }; (t, [27, 58, 115, modesI t]) else (s, []))
  else if b = 107 then (if c < 64 ∨ 127 < c then (s, []) else ({ s with speed := c }, [27, 58, 117, c]))
  else if b = 98 then (if (toI c).2 then (s, linkL s (toI c).1) else (s, []))
  else if b = 114 then (if c = 89 then (s, [27, 59, 115, 89, boardI s]) else (s, []))
  else (s, [])
def thirdF (s : PS) (b c d : Int) : PS × List Int :=
  if b = 96 ∨ b = 97 then
    (if (toI c).2 ∧ (fromI d).2 then let t := { s with m := upd s.m (toI c).1 (fromI d).1 (decide (b = 97)) }; (t, linkL t (toI c).1) else (s, []))
  else if b = 105 ∨ b = 106 then
    (if c = 89 ∧ d = 65 then let t := { s with ext := decide (b = 105) }; (t, [27, 59, 115, 89, boardI t])
     else if c = 89 ∧ d = 67 then let t := { s with c0 := decide (b = 105) }; (t, [27, 59, 115, 89, boardI t]) else (s, []))
  else (s, [])
def withEcho (p : PS × List Int) : PS × List Int := ({ p.1 with echo := hears p.1.m 0 1 }, p.2)
def askF (s : PS) (e : Ev) : PS × List Int :=
  if e.kind = 10 then withEcho (if e.a = 1 then firstF s e.b else if e.a = 2 then secondF s e.b e.c else if e.a = 3 then thirdF s e.b e.c e.d else (s, [])) else (s, [])
def ansAV (l : List Int) : AV := .fsl 1 l.length (l.map (.int .u8))
theorem t_bit (tag : Nat) (is : Bool) (n : Int) : callω L T 275 tag [.bool is, .int .u8 n] [none, none] = some (.int .u8 (if is then n else 0), [none, none]) := by
  rw [za5 (show T 275 = some (.code a275) from rfl) rfl rfl]
  cases is <;> ((refine gox ?_); (refine finx ?_; try with_reducible rfl); rfl)
theorem zjh (tag : Nat) (s : PS) : callω L T 242 tag [.agg s.enc] [none] = some (.int .u8 (modesI s), [none]) := by
  rw [za5 (show T 242 = some (.code a242) from rfl) rfl rfl]
  have e : bOr .u8 (bOr .u8 64 (if s.roll then 2 else 0)) (if s.lower then 8 else 0) = modesI s := by unfold modesI; cases s.roll <;> cases s.lower <;> decide
  (have c1 := fun x1 => t_bit x1 s.roll 2; have c2 := fun x1 => t_bit x1 s.lower 8; refine gox ?_; clear c1 c2)
  (refine finx ?_; try with_reducible rfl)
  rw [e]
theorem zqb (tag : Nat) (s : PS) : callω L T 246 tag [.agg s.enc] [none] = some (.int .u8 (boardI s), [none]) := by
  rw [za5 (show T 246 = some (.code a246) from rfl) rfl rfl]
  have e : bOr .u8 (bOr .u8 64 (if s.ext then 1 else 0)) (if s.c0 then 4 else 0) = boardI s := by unfold boardI; cases s.ext <;> cases s.c0 <;> decide
  (have c1 := fun x1 => t_bit x1 s.ext 1; have c2 := fun x1 => t_bit x1 s.c0 4; refine gox ?_; clear c1 c2)
  (refine finx ?_; try with_reducible rfl)
  rw [e]
theorem zdz (tag : Nat) (a b : Int) : callω L T 241 tag [.int .u8 a, .int .u8 b] [none, none] = some (ansAV [27, 58, a, b], [none, none]) := by
  rw [za5 (show T 241 = some (.code a241) from rfl) rfl rfl]
  (refine gox ?_)
  (refine finx ?_; try with_reducible rfl)
  all_goals first | rfl
theorem t_long (tag : Nat) (a b c : Int) : callω L T 245 tag [.int .u8 a, .int .u8 b, .int .u8 c] [none, none, none] = some (ansAV [27, 59, a, b, c], [none, none, none]) := by
  rw [za5 (show T 245 = some (.code a245) from rfl) rfl rfl]
  (refine gox ?_)
  (refine finx ?_; try with_reducible rfl)
  all_goals first | rfl
end
section
attribute [local simp] Ev.flen Ev.rd Ev.enc
theorem zgw (tag : Nat) : callω L T 77 tag [] [] = some (.agg PS.start.enc, []) := by
 rw [za5 (show T 77 = some (.code a77) from rfl) rfl rfl]
 have cS := zjx
 rw [start_lst] at cS
 simp only [lst, List.map_cons, List.map_nil] at cS
 (have c1 := fun x1 => cS x1; refine gox ?_; clear c1)
 (refine finx ?_; try with_reducible rfl)
 all_goals first | rfl
theorem zlb (tag : Nat) (s : PS) (b : Int) : callω L T 193 tag [.agg s.enc, .int .i64 b] [none, none] = some (.tup [.agg (firstF s b).1.enc, ansAV (firstF s b).2], [none, none]) := by
 rw [za5 (show T 193 = some (.code a193) from rfl) rfl rfl]
 unfold firstF
 have cM := fun t => zjh t s
 have cS := zgw
 simp only [PS.enc] at cM cS ⊢
 by_cases h0 : b = 112
 ·rw [if_pos h0]
  subst h0
  (have c1 := fun x1 => zdz x1 113 74; refine gox ?_; clear c1)
  (refine finx ?_; try with_reducible rfl)
  all_goals first | rfl
 rw [if_neg h0]
 by_cases h1 : b = 114
 ·rw [if_pos h1]
  subst h1
  (have c1 := fun x1 => cM x1; have c2 := fun x1 => zdz x1 115 (modesI s); refine gox ?_; clear c1 c2)
  (refine finx ?_; try with_reducible rfl)
  all_goals first | rfl
 rw [if_neg h1]
 by_cases h2 : b = 116
 ·rw [if_pos h2]
  subst h2
  (have c1 := fun x1 => zdz x1 117 s.speed; refine gox ?_; clear c1)
  (refine finx ?_; try with_reducible rfl)
  all_goals first | rfl
 rw [if_neg h2]
 by_cases h3 : b = 118
 ·rw [if_pos h3]
  subst h3
  (have c1 := fun x1 => zdz x1 119 64; refine gox ?_; clear c1)
  (refine finx ?_; try with_reducible rfl)
  all_goals first | rfl
 rw [if_neg h3]
 by_cases h4 : b = 123
 ·rw [if_pos h4]
  subst h4
  (refine gox ?_)
  (refine finx ?_; try with_reducible rfl)
  all_goals first | rfl
 rw [if_neg h4]
 by_cases h5 : b = 127
 ·rw [if_pos h5]
  subst h5
  (have c1 := fun x1 => cS x1; refine gox ?_; clear c1)
  (refine finx ?_; try with_reducible rfl)
  all_goals first | rfl
 rw [if_neg h5]
 (refine gox ?_)
 (refine finx ?_; try with_reducible rfl)
 all_goals first | rfl
theorem zkg (tag : Nat) (c : Int) : callω L T 243 tag [.int .i64 c] [none] = some (.tup [.int .i64 (toI c).1, .bool (toI c).2], [none]) := by
 rw [za5 (show T 243 = some (.code a243) from rfl) rfl rfl]
 by_cases h0 : c < 0
 ·have e : toI c = (0, false) := if_neg (by omega)
  rw [e]
  (refine gox ?_)
  (refine finx ?_; try with_reducible rfl)
  all_goals first | rfl
 by_cases h1 : 255 < c
 ·have e : toI c = (0, false) := if_neg (by omega)
  rw [e]
  (refine gox ?_)
  (refine finx ?_; try with_reducible rfl)
  all_goals first | rfl
 have w : IntKind.u8.wrap c = c := w_u8 (by omega) (by omega)
 have t := fun tag => zp2 tag c (by omega) (by omega)
 have e : (if in4 (c - 88) = true then c - 88 else 0) = (toI c).1 ∧ in4 (c - 88) = (toI c).2 := by
  unfold toI in4
  by_cases h : 88 ≤ c ∧ c < 92
  ·rw [if_pos h]; simp; omega
  ·rw [if_neg h]; simp; omega
 rw [e.1, e.2] at t
 conv at t => enter [tag]; lhs; rw [← w]
 (have c1 := fun x1 => t x1; refine gox ?_; clear c1)
 (refine finx ?_; try with_reducible rfl)
 all_goals first | rfl
theorem zlw (tag : Nat) (s : PS) (md : Int) : callω L T 244 tag [.agg s.enc, .int .i64 md] [none, none] = some (ansAV (linkL s md), [none, none]) := by
 rw [za5 (show T 244 = some (.code a244) from rfl) rfl rfl]
 have ts := fun t => zjr t (lst s.m) rfl md
 simp only [stat_lst] at ts
 simp only [lst, List.map_cons, List.map_nil] at ts
 simp only [PS.enc]
 (have c1 := fun x1 => ts x1; have c2 := fun x1 => zm3 x1 md true; have c3 := fun x1 => t_long x1 99 (codeI md true) (stat s.m md); refine gox ?_; clear c1 c2 c3)
 (refine finx ?_; try with_reducible rfl)
 all_goals first | rfl
end
section
attribute [local simp] Ev.flen Ev.rd Ev.enc
theorem zk4 (tag : Nat) (s : PS) (b c : Int) : callω L T 194 tag [.agg s.enc, .int .i64 b, .int .i64 c] [none, none, none] = some (.tup [.agg (secondF s b c).1.enc, ansAV (secondF s b c).2], [none, none, none]) := by
 rw [za5 (show T 194 = some (.code a194) from rfl) rfl rfl]
 by_cases h1 : b = 105 ∨ b = 106
 ·by_cases c1 : c = 67
  ·rw [show secondF s b c = ({ s with roll := decide (b = 105) }, [27, 58, 115, modesI { s with roll := decide (b = 105) }]) by unfold secondF; rw [if_pos h1, if_pos c1]]
   rcases h1 with h1 | h1
   all_goals subst h1
   all_goals have cM := fun t => zjh t { s with roll := true }
   all_goals have cN := fun t => zjh t { s with roll := false }
   all_goals simp only [PS.enc, show decide ((105 : Int) = 105) = true from rfl, show decide ((106 : Int) = 105) = false from rfl] at cM cN ⊢
   all_goals (have c1 := fun x1 => cM x1; have c2 := fun x1 => cN x1; have c3 := fun x1 => zdz x1 115 (modesI { s with roll := true }); have c4 := fun x1 => zdz x1 115 (modesI { s with roll := false }); refine gox ?_; clear c1 c2 c3 c4)
   all_goals (refine finx ?_; try with_reducible rfl)
   all_goals first | rfl
  by_cases c2 : c = 69
  ·rw [show secondF s b c = ({ s with lower := decide (b = 105) }, [27, 58, 115, modesI { s with lower := decide (b = 105) }]) by unfold secondF; rw [if_pos h1, if_neg c1, if_pos c2]]
   rcases h1 with h1 | h1
   all_goals subst h1
   all_goals have cM := fun t => zjh t { s with lower := true }
   all_goals have cN := fun t => zjh t { s with lower := false }
   all_goals simp only [PS.enc, show decide ((105 : Int) = 105) = true from rfl, show decide ((106 : Int) = 105) = false from rfl] at cM cN ⊢
   all_goals (have c1 := fun x1 => cM x1; have c2 := fun x1 => cN x1; have c3 := fun x1 => zdz x1 115 (modesI { s with lower := true }); have c4 := fun x1 => zdz x1 115 (modesI { s with lower := false }); refine gox ?_; clear c1 c2 c3 c4)
   all_goals (refine finx ?_; try with_reducible rfl)
   all_goals first | rfl
  rw [show secondF s b c = (s, []) by unfold secondF; rw [if_pos h1, if_neg c1, if_neg c2]]
  rcases h1 with h1 | h1
  all_goals subst h1
  all_goals simp only [PS.enc]
  all_goals (refine gox ?_)
  all_goals (refine finx ?_; try with_reducible rfl)
  all_goals first | rfl
 by_cases h2 : b = 107
 ·by_cases c1 : c < 64
  ·rw [show secondF s b c = (s, []) by unfold secondF; rw [if_neg h1, if_pos h2, if_pos (Or.inl c1)]]
   subst h2
   simp only [PS.enc]
   (refine gox ?_)
   (refine finx ?_; try with_reducible rfl)
   all_goals first | rfl
  by_cases c2 : 127 < c
  ·rw [show secondF s b c = (s, []) by unfold secondF; rw [if_neg h1, if_pos h2, if_pos (Or.inr c2)]]
   subst h2
   simp only [PS.enc]
   (refine gox ?_)
   (refine finx ?_; try with_reducible rfl)
   all_goals first | rfl
  rw [show secondF s b c = ({ s with speed := c }, [27, 58, 117, c]) by unfold secondF; rw [if_neg h1, if_pos h2, if_neg (by omega)]]
  have w : IntKind.u8.wrap c = c := w_u8 (by omega) (by omega)
  have cS := fun t => zdz t 117 c
  conv at cS => enter [t]; lhs; rw [← w]
  subst h2
  simp only [PS.enc]
  (have c1 := fun x1 => cS x1; refine gox ?_; clear c1)
  (refine finx ?_; try with_reducible rfl)
  rw [w]
  all_goals first | rfl
 by_cases h3 : b = 98
 ·rw [show secondF s b c = (if (toI c).2 then (s, linkL s (toI c).1) else (s, [])) by unfold secondF; rw [if_neg h1, if_neg h2, if_pos h3]]
  subst h3
  have cT := fun t => zkg t c
  generalize toI c = q at cT ⊢
  obtain ⟨q1, q2⟩ := q
  have cL := fun t => zlw t s q1
  simp only [PS.enc] at cL ⊢
  cases q2
  ·rw [if_neg (by simp)]
   (have c1 := fun x1 => cT x1; have c2 := fun x1 => cL x1; refine gox ?_; clear c1 c2)
   (refine finx ?_; try with_reducible rfl)
   all_goals first | rfl
  ·rw [if_pos rfl]
   (have c1 := fun x1 => cT x1; have c2 := fun x1 => cL x1; refine gox ?_; clear c1 c2)
   (refine finx ?_; try with_reducible rfl)
   all_goals first | rfl
 by_cases h4 : b = 114
 ·by_cases c1 : c = 89
  ·rw [show secondF s b c = (s, [27, 59, 115, 89, boardI s]) by unfold secondF; rw [if_neg h1, if_neg h2, if_neg h3, if_pos h4, if_pos c1]]
   subst h4
   have cB := fun t => zqb t s
   simp only [PS.enc] at cB ⊢
   (have c1 := fun x1 => cB x1; have c2 := fun x1 => t_long x1 115 89 (boardI s); refine gox ?_; clear c1 c2)
   (refine finx ?_; try with_reducible rfl)
   all_goals first | rfl
  ·rw [show secondF s b c = (s, []) by unfold secondF; rw [if_neg h1, if_neg h2, if_neg h3, if_pos h4, if_neg c1]]
   subst h4
   simp only [PS.enc]
   (refine gox ?_)
   (refine finx ?_; try with_reducible rfl)
   all_goals first | rfl
 rw [show secondF s b c = (s, []) by unfold secondF; rw [if_neg h1, if_neg h2, if_neg h3, if_neg h4]]
 have h5 : ¬ b = 105 := fun x => h1 (.inl x)
 have h6 : ¬ b = 106 := fun x => h1 (.inr x)
 simp only [PS.enc]
 (refine gox ?_)
 (refine finx ?_; try with_reducible rfl)
 all_goals first | rfl
end
section
attribute [local simp] Ev.flen Ev.rd Ev.enc
theorem zl7 (tag : Nat) (s : PS) (b c d : Int) : callω L T 195 tag [.agg s.enc, .int .i64 b, .int .i64 c, .int .i64 d] [none, none, none, none] = some (.tup [.agg (thirdF s b c d).1.enc, ansAV (thirdF s b c d).2], [none, none, none, none]) := by
 rw [za5 (show T 195 = some (.code a195) from rfl) rfl rfl]
 by_cases h1 : b = 96 ∨ b = 97
 ·rw [show thirdF s b c d = (if (toI c).2 ∧ (fromI d).2 then ({ s with m := upd s.m (toI c).1 (fromI d).1 (decide (b = 97)) }, linkL { s with m := upd s.m (toI c).1 (fromI d).1 (decide (b = 97)) } (toI c).1) else (s, [])) by unfold thirdF; rw [if_pos h1]]
  have cT := fun t => zkg t c
  generalize toI c = q at cT ⊢
  obtain ⟨q1, q2⟩ := q
  by_cases d0 : d < 0
  ·rw [show fromI d = (0, false) from if_neg (by omega), if_neg (by simp)]
   simp only [PS.enc]
   rcases h1 with h1 | h1
   all_goals subst h1
   all_goals (have c1 := fun x1 => cT x1; refine gox ?_; clear c1)
   all_goals (refine finx ?_; try with_reducible rfl)
   all_goals first | rfl
  by_cases d1 : 255 < d
  ·rw [show fromI d = (0, false) from if_neg (by omega), if_neg (by simp)]
   simp only [PS.enc]
   rcases h1 with h1 | h1
   all_goals subst h1
   all_goals (have c1 := fun x1 => cT x1; refine gox ?_; clear c1)
   all_goals (refine finx ?_; try with_reducible rfl)
   all_goals first | rfl
  cases q2 with
  | false =>
   rw [if_neg (by simp)]
   simp only [PS.enc]
   rcases h1 with h1 | h1
   all_goals subst h1
   all_goals (have c1 := fun x1 => cT x1; refine gox ?_; clear c1)
   all_goals (refine finx ?_; try with_reducible rfl)
   all_goals first | rfl
  | true =>
   have w : IntKind.u8.wrap d = d := w_u8 (by omega) (by omega)
   have tf := fun t => zm4 t d (by omega) (by omega)
   have e : (if in4 (d - 80) = true then d - 80 else 0) = (fromI d).1 ∧ in4 (d - 80) = (fromI d).2 := by
    unfold fromI in4
    by_cases h : 80 ≤ d ∧ d < 84
    ·rw [if_pos h]; simp; omega
    ·rw [if_neg h]; simp; omega
   rw [e.1, e.2] at tf
   conv at tf => enter [t]; lhs; rw [← w]
   generalize fromI d = f at tf ⊢
   obtain ⟨f1, f2⟩ := f
   cases f2 with
   | false =>
    rw [if_neg (by simp)]
    simp only [PS.enc]
    rcases h1 with h1 | h1
    all_goals subst h1
    all_goals (have c1 := fun x1 => cT x1; have c2 := fun x1 => tf x1; refine gox ?_; clear c1 c2)
    all_goals (refine finx ?_; try with_reducible rfl)
    all_goals first | rfl
   | true =>
    rw [if_pos ⟨rfl, rfl⟩]
    rcases h1 with h1 | h1
    all_goals subst h1
    ·have ts := fun t => zhp t (lst s.m) rfl q1 f1 (decide ((96 : Int) = 97))
     simp only [setB_lst] at ts
     have cL := fun t => zlw t { s with m := upd s.m q1 f1 (decide ((96 : Int) = 97)) } q1
     simp only [PS.enc, lst, List.map_cons, List.map_nil] at ts cL ⊢
     (have c1 := fun x1 => cT x1; have c2 := fun x1 => tf x1; have c3 := fun x1 => ts x1; have c4 := fun x1 => cL x1; refine gox ?_; clear c1 c2 c3 c4)
     (refine finx ?_; try with_reducible rfl)
     all_goals first | rfl
    ·have ts := fun t => zhp t (lst s.m) rfl q1 f1 (decide ((97 : Int) = 97))
     simp only [setB_lst] at ts
     have cL := fun t => zlw t { s with m := upd s.m q1 f1 (decide ((97 : Int) = 97)) } q1
     simp only [PS.enc, lst, List.map_cons, List.map_nil] at ts cL ⊢
     (have c1 := fun x1 => cT x1; have c2 := fun x1 => tf x1; have c3 := fun x1 => ts x1; have c4 := fun x1 => cL x1; refine gox ?_; clear c1 c2 c3 c4)
     (refine finx ?_; try with_reducible rfl)
     all_goals first | rfl
 by_cases h2 : b = 105 ∨ b = 106
 ·by_cases c1 : c = 89
  ·by_cases d1 : d = 65
   ·rw [show thirdF s b c d = ({ s with ext := decide (b = 105) }, [27, 59, 115, 89, boardI { s with ext := decide (b = 105) }]) by unfold thirdF; rw [if_neg h1, if_pos h2, if_pos ⟨c1, d1⟩]]
    have h1a : ¬ b = 96 := fun x => h1 (.inl x)
    have h1b : ¬ b = 97 := fun x => h1 (.inr x)
    have cB := fun t => zqb t { s with ext := decide (b = 105) }
    have cL := fun t => t_long t 115 89 (boardI { s with ext := decide (b = 105) })
    rcases h2 with h2 | h2
    all_goals subst h2
    all_goals simp only [PS.enc] at cB cL ⊢
    all_goals (have c1 := fun x1 => cB x1; have c2 := fun x1 => cL x1; refine gox ?_; clear c1 c2)
    all_goals (refine finx ?_; try with_reducible rfl)
    all_goals first | rfl
   by_cases d2 : d = 67
   ·rw [show thirdF s b c d = ({ s with c0 := decide (b = 105) }, [27, 59, 115, 89, boardI { s with c0 := decide (b = 105) }]) by unfold thirdF; rw [if_neg h1, if_pos h2, if_neg (fun x => d1 x.2), if_pos ⟨c1, d2⟩]]
    have h1a : ¬ b = 96 := fun x => h1 (.inl x)
    have h1b : ¬ b = 97 := fun x => h1 (.inr x)
    have cB := fun t => zqb t { s with c0 := decide (b = 105) }
    have cL := fun t => t_long t 115 89 (boardI { s with c0 := decide (b = 105) })
    rcases h2 with h2 | h2
    all_goals subst h2
    all_goals simp only [PS.enc] at cB cL ⊢
    all_goals (have c1 := fun x1 => cB x1; have c2 := fun x1 => cL x1; refine gox ?_; clear c1 c2)
    all_goals (refine finx ?_; try with_reducible rfl)
    all_goals first | rfl
   rw [show thirdF s b c d = (s, []) by unfold thirdF; rw [if_neg h1, if_pos h2, if_neg (fun x => d1 x.2), if_neg (fun x => d2 x.2)]]
   have h1a : ¬ b = 96 := fun x => h1 (.inl x)
   have h1b : ¬ b = 97 := fun x => h1 (.inr x)
   simp only [PS.enc]
   rcases h2 with h2 | h2
   all_goals subst h2
   all_goals (refine gox ?_)
   all_goals (refine finx ?_; try with_reducible rfl)
   all_goals first | rfl
  rw [show thirdF s b c d = (s, []) by unfold thirdF; rw [if_neg h1, if_pos h2, if_neg (fun x => c1 x.1), if_neg (fun x => c1 x.1)]]
  have h1a : ¬ b = 96 := fun x => h1 (.inl x)
  have h1b : ¬ b = 97 := fun x => h1 (.inr x)
  simp only [PS.enc]
  rcases h2 with h2 | h2
  all_goals subst h2
  all_goals (refine gox ?_)
  all_goals (refine finx ?_; try with_reducible rfl)
  all_goals first | rfl
 rw [show thirdF s b c d = (s, []) by unfold thirdF; rw [if_neg h1, if_neg h2]]
 have h1a : ¬ b = 96 := fun x => h1 (.inl x)
 have h1b : ¬ b = 97 := fun x => h1 (.inr x)
 simp only [PS.enc]
 have h5 : ¬ b = 105 := fun x => h2 (.inl x)
 have h6 : ¬ b = 106 := fun x => h2 (.inr x)
 all_goals (refine gox ?_)
 all_goals (refine finx ?_; try with_reducible rfl)
 all_goals first | rfl
end
section
attribute [local simp] Ev.flen Ev.rd Ev.enc
theorem zpc (tag : Nat) (s : PS) (e : Ev) : callω L T 138 tag [.agg s.enc, .agg e.enc] [none, none] = some (.tup [.agg (askF s e).1.enc, ansAV (askF s e).2], [none, none]) := by
 rw [za5 (show T 138 = some (.code a138) from rfl) rfl rfl]
 obtain ⟨kind, a, b, c, d, set, code⟩ := e
 simp only [Ev.enc]
 by_cases hk : kind = 10
 ·rw [show askF s ⟨kind, a, b, c, d, set, code⟩ = withEcho (if a = 1 then firstF s b else if a = 2 then secondF s b c else if a = 3 then thirdF s b c d else (s, [])) from if_pos hk]
  have th := fun (m : Nat → Bool) t => zb9 t (lst m) rfl 0 1
  simp only [zgh] at th
  subst hk
  by_cases a1 : a = 1
  ·rw [if_pos a1]
   have tp := fun t => zlb t s b
   generalize firstF s b = p at tp ⊢
   obtain ⟨p1, p2⟩ := p
   have th := th p1.m
   unfold withEcho
   simp only [PS.enc, lst, List.map_cons, List.map_nil] at tp th ⊢
   subst a1
   (have c1 := fun x1 => tp x1; have c2 := fun x1 => th x1; refine gox ?_; clear c1 c2)
   (refine finx ?_; try with_reducible rfl)
   all_goals first | rfl
  rw [if_neg a1]
  by_cases a2 : a = 2
  ·rw [if_pos a2]
   have tp := fun t => zk4 t s b c
   generalize secondF s b c = p at tp ⊢
   obtain ⟨p1, p2⟩ := p
   have th := th p1.m
   unfold withEcho
   simp only [PS.enc, lst, List.map_cons, List.map_nil] at tp th ⊢
   subst a2
   (have c1 := fun x1 => tp x1; have c2 := fun x1 => th x1; refine gox ?_; clear c1 c2)
   (refine finx ?_; try with_reducible rfl)
   all_goals first | rfl
  rw [if_neg a2]
  by_cases a3 : a = 3
  ·rw [if_pos a3]
   have tp := fun t => zl7 t s b c d
   generalize thirdF s b c d = p at tp ⊢
   obtain ⟨p1, p2⟩ := p
   have th := th p1.m
   unfold withEcho
   simp only [PS.enc, lst, List.map_cons, List.map_nil] at tp th ⊢
   subst a3
   (have c1 := fun x1 => tp x1; have c2 := fun x1 => th x1; refine gox ?_; clear c1 c2)
   (refine finx ?_; try with_reducible rfl)
   all_goals first | rfl
  rw [if_neg a3]
  have th := th s.m
  unfold withEcho
  simp only [PS.enc, lst, List.map_cons, List.map_nil] at th ⊢
  (have c1 := fun x1 => th x1; refine gox ?_; clear c1)
  (refine finx ?_; try with_reducible rfl)
  all_goals first | rfl
 ·rw [show askF s ⟨kind, a, b, c, d, set, code⟩ = (s, []) from if_neg hk]
  simp only [PS.enc]
  (refine gox ?_)
  (refine finx ?_; try with_reducible rfl)
  all_goals first | rfl
end
section
def even (xs : List Int) : List Int := xs.map makeEvenI
theorem zco (xs : List Int) : (even xs).length = xs.length := by simp [even]
def arrowL (e c0 : Bool) (k : Int) : List Int := if e then [27, 91, 65 + k] else if c0 then [11 - k] else []
def letterI (l : Bool) (c : Int) : Int := if 97 ≤ c ∧ c ≤ 122 ∧ l = false then c - 32 else c
def keyL (l e c0 : Bool) (key : Int) : List Int :=
 if 32 ≤ key ∧ key ≤ 126 then [letterI l key]
 else if 321 ≤ key ∧ key ≤ 329 then [19, key - 256]
 else if 416 ≤ key ∧ key ≤ 419 then arrowL e c0 (key - 416)
 else if key = 420 then [13]
 else if key = 421 ∧ e = true then [27]
 else []
theorem zj6 (tag : Nat) (xs : List Int) (hl : xs.length < 1000000) : callω L T 86 tag [.isl 1 xs.length (xs.map (.int .u8))] [none] = some (.fsl 1 xs.length ((even xs).map (.int .u8)), [none]) := by
 rw [za5 (show T 86 = some (.code a86) from rfl) rfl rfl]
 (refine gox ?_)
 refine zcr (fun k nx => ⟨[(3, .msl 3 (tag, nx - 1) 1 0 k), (6, .isl 1 xs.length (xs.map (.int .u8))), (7, .int .i64 (xs.length : Nat)), (8, .int .i64 (k : Nat))], [(3, ⟨(tag, nx - 1), ((even xs).take k).map (.int .u8)⟩)], nx, tag⟩) xs.length _ ?_ ?_ 0 3 (by omega)
 ·intro k nx hk
  obtain ⟨x, hx⟩ : ∃ x, xs[k]? = some x := ⟨xs[k], List.getElem?_eq_getElem hk⟩
  have hg : (xs.map (AV.int .u8))[k]? = some (.int .u8 x) := by rw [List.getElem?_map, hx]; rfl
  have hk2 : (k : Int) < (xs.length : Int) := by omega
  have ht : (even xs).take (k + 1) = (even xs).take k ++ [makeEvenI x] := by
   rw [List.take_add_one]
   simp [even, hx]
  have hlen : ((even xs).take k).length = k := by rw [List.length_take, zco]; omega
  generalize hq : (even xs).take k = q at hlen ht ⊢
  have hq2 : (q.map (AV.int .u8)).length = k := by rw [List.length_map, hlen]
  have hbnd : k + 1 ≤ 140737488355328 := by omega
  exact ⟨nx + 2, by
   (have fA := aI @hg (aI @hk2 (aI @hq2 @hbnd)); have c1 := fun x1 => zh9 x1 x; refine gox ?_; clear fA c1)
   refine zaa ?_ ?_ rfl
   ·rw [zah hk (by omega)]; rfl
   ·rw [ht, List.map_append]; rfl⟩
 ·intro nx
  have hq : (even xs).take xs.length = even xs := by rw [← zco, List.take_length]
  simp only [hq]
  (refine gox ?_)
  (have fA := @zco; refine finx ?_; clear fA; try with_reducible rfl)
  all_goals first | rfl
theorem zmt (tag : Nat) (xs : List Int) (hl : xs.length < 1000000) : callω L T 30 tag [.isl 1 xs.length (xs.map (.int .u8))] [none] = some (.fsl 1 xs.length ((even xs).map (.int .u8)), [none]) := by
 rw [za5 (show T 30 = some (.code a30) from rfl) rfl rfl]
 (refine gox ?_)
 refine zcr (fun k nx => ⟨[(0, .isl 1 xs.length (xs.map (.int .u8))), (3, .msl 3 (tag, nx - 1) 1 0 k), (4, .int .i64 (k : Nat))], [(3, ⟨(tag, nx - 1), ((even xs).take k).map (.int .u8)⟩)], nx, tag⟩) xs.length _ ?_ ?_ 0 3 (by omega)
 ·intro k nx hk
  obtain ⟨x, hx⟩ : ∃ x, xs[k]? = some x := ⟨xs[k], List.getElem?_eq_getElem hk⟩
  have hg : (xs.map (AV.int .u8))[k]? = some (.int .u8 x) := by rw [List.getElem?_map, hx]; rfl
  have hk2 : (k : Int) < (xs.length : Int) := by omega
  have ht : (even xs).take (k + 1) = (even xs).take k ++ [makeEvenI x] := by
   rw [List.take_add_one]
   simp [even, hx]
  have hlen : ((even xs).take k).length = k := by rw [List.length_take, zco]; omega
  generalize hq : (even xs).take k = q at hlen ht ⊢
  have hq2 : (q.map (AV.int .u8)).length = k := by rw [List.length_map, hlen]
  have hbnd : k + 1 ≤ 140737488355328 := by omega
  exact ⟨nx + 2, by
   (have fA := aI @hg (aI @hk2 (aI @hq2 @hbnd)); have c1 := fun x1 => zbc x1 x; refine gox ?_; clear fA c1)
   refine zaa ?_ ?_ rfl
   ·rw [zah hk (by omega)]; rfl
   ·rw [ht, List.map_append]; rfl⟩
 ·intro nx
  have hq : (even xs).take xs.length = even xs := by rw [← zco, List.take_length]
  simp only [hq]
  (refine gox ?_)
  (have fA := @zco; refine finx ?_; clear fA; try with_reducible rfl)
  all_goals first | rfl
theorem zln (tag : Nat) (s : PS) (c : Int) (h0 : 0 ≤ c) (h1 : c < 256) : callω L T 133 tag [.agg s.enc, .int .u8 c] [none, none] = some (ansAV [letterI s.lower c], [none, none]) := by
 rw [za5 (show T 133 = some (.code a133) from rfl) rfl rfl]
 obtain ⟨m, roll, lower, ext, c0, speed, echo⟩ := s
 simp only [PS.enc]
 unfold letterI
 by_cases h2 : 97 ≤ c
 ·by_cases h4 : c ≤ 122
  ·have h3 : IntKind.u8.wrap (c - 32) = c - 32 := w_u8 (by omega) (by omega)
   cases lower with
   | false =>
    rw [if_pos ⟨h2, h4, rfl⟩]
    (refine gox ?_)
    (refine finx ?_; try with_reducible rfl)
    rw [h3]
    all_goals first | rfl
   | true =>
    rw [if_neg (by simp)]
    (refine gox ?_)
    (refine finx ?_; try with_reducible rfl)
    all_goals first | rfl
  ·rw [if_neg (fun h => h4 h.2.1)]
   (refine gox ?_)
   (refine finx ?_; try with_reducible rfl)
   all_goals first | rfl
 ·rw [if_neg (fun h => h2 h.1)]
  (refine gox ?_)
  (refine finx ?_; try with_reducible rfl)
  all_goals first | rfl
theorem zog (tag : Nat) (s : PS) (k : Int) (h0 : 0 ≤ k) (h4 : k < 4) : callω L T 134 tag [.agg s.enc, .int .i64 k] [none, none] = some (ansAV (arrowL s.ext s.c0 k), [none, none]) := by
 rw [za5 (show T 134 = some (.code a134) from rfl) rfl rfl]
 obtain ⟨m, roll, lower, ext, c0, speed, echo⟩ := s
 simp only [PS.enc]
 have : k = 0 ∨ k = 1 ∨ k = 2 ∨ k = 3 := by omega
 rcases this with rfl | rfl | rfl | rfl <;> (cases ext <;> cases c0 <;> ((refine gox ?_); (refine finx ?_; try with_reducible rfl); first | rfl))
theorem zni (tag : Nat) (s : PS) (key : Int) : callω L T 87 tag [.agg s.enc, .int .i64 key] [none, none] = some (ansAV (keyL s.lower s.ext s.c0 key), [none, none]) := by
 rw [za5 (show T 87 = some (.code a87) from rfl) rfl rfl]
 by_cases h1 : 32 ≤ key ∧ key ≤ 126
 ·rw [show keyL s.lower s.ext s.c0 key = [letterI s.lower key] from if_pos h1]
  have e1 : IntKind.u8.wrap key = key := w_u8 (by omega) (by omega)
  have tl := fun tag => zln tag s key (by omega) (by omega)
  conv at tl => enter [tag]; lhs; rw [← e1]
  obtain ⟨g1, g2⟩ := h1
  simp only [PS.enc] at tl ⊢
  (have c1 := fun x1 => tl x1; refine gox ?_; clear c1)
  (refine finx ?_; try with_reducible rfl)
  all_goals first | rfl
 by_cases h2 : 321 ≤ key ∧ key ≤ 329
 ·rw [show keyL s.lower s.ext s.c0 key = [19, key - 256] by unfold keyL; rw [if_neg h1, if_pos h2]]
  have e1 : IntKind.u8.wrap key = key - 256 := by rw [zio]; omega
  obtain ⟨g1, g2⟩ := h2
  have e2 : ¬ key ≤ 126 := by omega
  have e3 : 32 ≤ key := by omega
  simp only [PS.enc]
  (refine gox ?_)
  (refine finx ?_; try with_reducible rfl)
  rw [e1]
  all_goals first | rfl
 by_cases h3 : 416 ≤ key ∧ key ≤ 419
 ·rw [show keyL s.lower s.ext s.c0 key = arrowL s.ext s.c0 (key - 416) by unfold keyL; rw [if_neg h1, if_neg h2, if_pos h3]]
  have e1 : IntKind.i64.wrap (key - 416) = key - 416 := w_i64 (by omega) (by omega)
  have ta := fun tag => zog tag s (key - 416) (by omega) (by omega)
  conv at ta => enter [tag]; lhs; rw [← e1]
  obtain ⟨g1, g2⟩ := h3
  have e2 : ¬ key ≤ 126 := by omega
  have e3 : 32 ≤ key := by omega
  have e4 : 321 ≤ key := by omega
  have e5 : ¬ key ≤ 329 := by omega
  simp only [PS.enc] at ta ⊢
  (have c1 := fun x1 => ta x1; refine gox ?_; clear c1)
  (refine finx ?_; try with_reducible rfl)
  all_goals first | rfl
 by_cases h4 : key = 420
 ·subst h4
  rw [show keyL s.lower s.ext s.c0 420 = [13] from rfl]
  simp only [PS.enc]
  (refine gox ?_)
  (refine finx ?_; try with_reducible rfl)
  all_goals first | rfl
 by_cases h5 : key = 421
 ·subst h5
  obtain ⟨m, roll, lower, ext, c0, speed, echo⟩ := s
  simp only [PS.enc]
  cases ext with
  | false =>
   rw [show keyL lower false c0 421 = [] from rfl]
   (refine gox ?_)
   (refine finx ?_; try with_reducible rfl)
   all_goals first | rfl
  | true =>
   rw [show keyL lower true c0 421 = [27] from rfl]
   (refine gox ?_)
   (refine finx ?_; try with_reducible rfl)
   all_goals first | rfl
 rw [show keyL s.lower s.ext s.c0 key = [] by unfold keyL; rw [if_neg h1, if_neg h2, if_neg h3, if_neg h4, if_neg (fun h => h5 h.1)]]
 simp only [PS.enc]
 by_cases g1 : 32 ≤ key
 ·have g2 : ¬ key ≤ 126 := fun h => h1 ⟨g1, h⟩
  by_cases g3 : 321 ≤ key
  ·have g4 : ¬ key ≤ 329 := fun h => h2 ⟨g3, h⟩
   by_cases g5 : 416 ≤ key
   ·have g6 : ¬ key ≤ 419 := fun h => h3 ⟨g5, h⟩
    (refine gox ?_)
    (refine finx ?_; try with_reducible rfl)
    all_goals first | rfl
   ·(refine gox ?_)
    (refine finx ?_; try with_reducible rfl)
    all_goals first | rfl
  ·have g5 : ¬ 416 ≤ key := by omega
   (refine gox ?_)
   (refine finx ?_; try with_reducible rfl)
   all_goals first | rfl
 ·have g3 : ¬ 321 ≤ key := by omega
  have g5 : ¬ 416 ≤ key := by omega
  (refine gox ?_)
  (refine finx ?_; try with_reducible rfl)
  all_goals first | rfl
end
end Go.Proofs.YtbaenaalfpcaaaaGreatDoor
