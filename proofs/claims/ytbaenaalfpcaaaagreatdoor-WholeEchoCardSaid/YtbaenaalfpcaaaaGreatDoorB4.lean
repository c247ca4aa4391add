/- Part of the proof: an interpreter of the model, proved sound, and what it makes of the functions. -/
import Derived.Test.YtbaenaalfpcaaaaGreatDoorA5
import Derived.Test.YtbaenaalfpcaaaaGreatDoorA4
import Derived.Test.YtbaenaalfpcaaaaGreatDoorB2
import Derived.Test.YtbaenaalfpcaaaaGreatDoorB3
import Derived.Test.YtbaenaalfpcaaaaGreatDoorB1
set_option linter.unusedVariables false
set_option linter.unusedSimpArgs false
set_option maxRecDepth 100000
set_option maxHeartbeats 40000000
namespace Go.Proofs.YtbaenaalfpcaaaaGreatDoor
open Go Go.Sim
attribute [local irreducible] chk brX hX finH keyX visit packed backPk backOk backHeap stays getAll getX strX setX takeX normX fillX lendX partsX opsX callK lentK lentR giveX adoptX resX joinX headX loopX seqK blkK regK finX exOps ex eqT finMX matAll
attribute [local simp] zc2 zbg zbd zau zbm zb6 List.getElem?_cons_zero List.getElem?_cons_succ List.getElem?_nil w_i64 w_u64 w_u8 zcu bOr_u8 zcv zb3 zd0 zaj zar zao zaq zcy pl_int pl_str zcz pl_nsl zd1 zcx zag AV.cells TI.isAgg
section
attribute [local simp] Ev.flen Ev.rd Ev.enc Slot.flen Slot.rd Slot.pute Slot.zero Slot.enc Cell.flen Cell.rd Cell.put Cell.pute Cell.zero Cell.enc
theorem Scr.shut (s : Scr) (h : s.Ok) : shutL s.enc = true := zd9 (enc_pl h)
theorem Scr.free (s : Scr) (h : s.Ok) (t : Nat) : freeL t s.enc = true := zdu t (enc_pl h)
theorem rep16 : repl 4 [AV.bool false, AV.bool false, AV.bool false, AV.bool false] = [AV.bool false, .bool false, .bool false, .bool false, .bool false, .bool false, .bool false, .bool false, .bool false, .bool false, .bool false, .bool false, .bool false, .bool false, .bool false, .bool false] := rfl
structure Mt where
  most : Int
  scr : Scr
  ps : PS
  p0 : List Int
  h0 : Int
  p1 : List Int
  h1 : Int
  p2 : List Int
  h2 : Int
  p3 : List Int
  h3 : Int
  o0 : List Int
  o1 : List Int
  o2 : List Int
  o3 : List Int
  lost : Int
def Mt.cells (k : Nat) (tag : Nat) (m : Mt) : List AV :=
  [.int .i64 m.most, .ref (k + 1) (tag, 0) 0, .bool (m.ps.m 0), .bool (m.ps.m 1), .bool (m.ps.m 2), .bool (m.ps.m 3), .bool (m.ps.m 4), .bool (m.ps.m 5), .bool (m.ps.m 6), .bool (m.ps.m 7), .bool (m.ps.m 8), .bool (m.ps.m 9), .bool (m.ps.m 10), .bool (m.ps.m 11), .bool (m.ps.m 12), .bool (m.ps.m 13), .bool (m.ps.m 14), .bool (m.ps.m 15), .bool m.ps.roll, .bool m.ps.lower, .bool m.ps.ext, .bool m.ps.c0, .int .u8 m.ps.speed, .bool m.ps.echo,
   .msl (k + 24) (tag, 0) 1 0 m.p0.length, .int .i64 m.h0, .msl (k + 26) (tag, 0) 1 0 m.p1.length, .int .i64 m.h1, .msl (k + 28) (tag, 0) 1 0 m.p2.length, .int .i64 m.h2, .msl (k + 30) (tag, 0) 1 0 m.p3.length, .int .i64 m.h3,
   .msl (k + 32) (tag, 0) 1 0 m.o0.length, .msl (k + 33) (tag, 0) 1 0 m.o1.length, .msl (k + 34) (tag, 0) 1 0 m.o2.length, .msl (k + 35) (tag, 0) 1 0 m.o3.length, .int .i64 m.lost]
def u8L (l : List Int) : List AV := l.map (.int .u8)
def Mt.rest (k : Nat) (m : Mt) : List (Option (List AV)) :=
  [hb (k + 1) m.scr.enc, hb (k + 24) (u8L m.p0), hb (k + 26) (u8L m.p1), hb (k + 28) (u8L m.p2), hb (k + 30) (u8L m.p3), hb (k + 32) (u8L m.o0), hb (k + 33) (u8L m.o1), hb (k + 34) (u8L m.o2), hb (k + 35) (u8L m.o3)]
def Mt.mem (r k tag : Nat) (m : Mt) : List (Option (List AV)) := hb r (m.cells k tag) :: m.rest k
def mtNew (most : Int) : Mt := ⟨most, sNew, PS.start, [], 0, [], 0, [], 0, [], 0, [], [], [], [], 0⟩
theorem t_mNew (tag : Nat) (most : Int) (h1 : 1 ≤ most) (h2 : most ≤ 4096) :
    callH L T 29 tag [.int .i64 most] [] = some (.tup [.ref 400000 (tag, 0) 0, .nilI], (mtNew most).mem 400000 400001000000 tag) := by
  refine (za8 (show T (29 + 1000000000) = some (.hcode a29) from rfl) rfl (by simp only [argEnv, Nat.reduceAdd]; apply Eq.refl) (by simp only [hb, hHeap]; apply Eq.refl)).trans ?_
  have cP := zgw
  have cS := t_sNew
  have l1 := Scr.shut sNew zbo
  have f1 := Scr.free sNew zbo
  unfold mtNew
  generalize sNew = scr at cS l1 f1 ⊢
  generalize PS.start = p at cP ⊢
  obtain ⟨m, proll, lower, ext, c0, speed, echo⟩ := p
  simp only [Mt.mem, Mt.rest, Mt.cells]
  generalize scr.enc = s at cS l1 f1 ⊢
  simp only [PS.enc] at cP
  (have fA := aI @rep16 (aI @l1 @f1); have c1 := fun x1 => cP x1; have c2 := fun x1 => cS x1; refine gox ?_; clear fA c1 c2)
  (have fA := aI @l1 @f1; refine finhx ?_; clear fA; try with_reducible rfl)
  all_goals first | rfl
end
section
attribute [local simp] Ev.flen Ev.rd Ev.enc Slot.flen Slot.rd Slot.pute Slot.zero Slot.enc Cell.flen Cell.rd Cell.put Cell.pute Cell.zero Cell.enc
def put2 (m : Mt) (b : List Int) : Mt := if b.length = 0 then m else if m.o2.length + b.length > m.most then { m with lost := m.lost + 1 } else { m with o2 := m.o2 ++ b }
def put3 (m : Mt) (b : List Int) : Mt := if b.length = 0 then m else if m.o3.length + b.length > m.most then { m with lost := m.lost + 1 } else { m with o3 := m.o3 ++ b }
theorem t_send2 (tag : Nat) (m : Mt) (hs : m.scr.Ok) (b : List Int) (hm : 0 ≤ m.most ∧ m.most ≤ 4096) (hb' : b.length < 1000) (ho : m.o2.length < 5000) (hl : 0 ≤ m.lost ∧ m.lost < 1000000000) :
  callH L T 89 tag [.ref 0 (tag, 0) 0, .int .i64 2, .msl 2 (tag, 0) 1 0 b.length] (hb 0 (m.cells 1000000 tag) :: hb 2 (u8L b) :: m.rest 1000000) = some (.tup [], hb 0 ((put2 m b).cells 1000000 tag) :: hb 2 (u8L b) :: (put2 m b).rest 1000000) := by
 have l1 := Scr.shut m.scr hs
 have f1 := Scr.free m.scr hs
 unfold put2
 by_cases q : b.length = 0
 ·rw [if_pos q]
  have q1 : (b.length : Int) = 0 := by omega
  simp only [Mt.rest, Mt.cells, u8L, Nat.reduceAdd]
  generalize m.scr.enc = s at l1 f1 ⊢
  refine (za8 (show T (89 + 1000000000) = some (.hcode a89) from rfl) rfl (by simp only [argEnv, Nat.reduceAdd]; apply Eq.refl) (by simp only [hb, hHeap]; apply Eq.refl)).trans ?_
  (have fA := aI @l1 (aI @f1 @q1); refine gox ?_; clear fA)
  (have fA := aI @l1 @f1; refine finhx ?_; clear fA; try with_reducible rfl)
  all_goals first | rfl
 rw [if_neg q]
 have q1 : ¬ (b.length : Int) = 0 := by omega
 have w : IntKind.i64.wrap ((m.o2.length : Int) + (b.length : Int)) = (m.o2.length : Int) + b.length := w_i64 (by omega) (by omega)
 by_cases q2 : (m.o2.length : Int) + b.length > m.most
 ·rw [if_pos q2]
  have w2 : IntKind.i64.wrap (m.lost + 1) = m.lost + 1 := w_i64 (by omega) (by omega)
  have q3 : IntKind.i64.wrap ((m.o2.length : Int) + (b.length : Int)) > m.most := by rw [w]; exact q2
  have q4 : m.most < IntKind.i64.wrap ((m.o2.length : Int) + (b.length : Int)) := q3
  simp only [Mt.rest, Mt.cells, u8L, Nat.reduceAdd]
  generalize m.scr.enc = s at l1 f1 ⊢
  refine (za8 (show T (89 + 1000000000) = some (.hcode a89) from rfl) rfl (by simp only [argEnv, Nat.reduceAdd]; apply Eq.refl) (by simp only [hb, hHeap]; apply Eq.refl)).trans ?_
  (have fA := aI @l1 @f1; refine gox ?_; clear fA)
  (have fA := aI @l1 @f1; refine finhx ?_; clear fA; try with_reducible rfl)
  rw [w2]
  all_goals first | rfl
 ·rw [if_neg q2]
  have q3 : ¬ IntKind.i64.wrap ((m.o2.length : Int) + (b.length : Int)) > m.most := by rw [w]; exact q2
  have q4 : ¬ m.most < IntKind.i64.wrap ((m.o2.length : Int) + (b.length : Int)) := q3
  have e1 : m.o2.length + b.length ≤ 140737488355328 := by omega
  have tk : (b.map (AV.int .u8)).take b.length = b.map (AV.int .u8) := by simp
  have e34 : 32 + Int.toNat 2 = 34 := rfl
  have tk3 : (m.o2.map (AV.int .u8)).take m.o2.length = m.o2.map (AV.int .u8) := by simp
  have tk2 : (m.o2.map (AV.int .u8)).length = m.o2.length := by simp
  simp only [Mt.rest, Mt.cells, u8L, Nat.reduceAdd, List.length_append, List.map_append]
  generalize m.scr.enc = s at l1 f1 ⊢
  refine (za8 (show T (89 + 1000000000) = some (.hcode a89) from rfl) rfl (by simp only [argEnv, Nat.reduceAdd]; apply Eq.refl) (by simp only [hb, hHeap]; apply Eq.refl)).trans ?_
  (have fA := aI @l1 (aI @f1 (aI @e1 (aI @tk (aI @tk2 (aI @tk3 @e34))))); refine gox ?_; clear fA)
  (have fA := aI @l1 @f1; refine finhx ?_; clear fA; try with_reducible rfl)
  all_goals first | rfl
theorem t_send3 (tag : Nat) (m : Mt) (hs : m.scr.Ok) (b : List Int) (hm : 0 ≤ m.most ∧ m.most ≤ 4096) (hb' : b.length < 1000) (ho : m.o3.length < 5000) (hl : 0 ≤ m.lost ∧ m.lost < 1000000000) :
  callH L T 89 tag [.ref 0 (tag, 0) 0, .int .i64 3, .msl 2 (tag, 0) 1 0 b.length] (hb 0 (m.cells 1000000 tag) :: hb 2 (u8L b) :: m.rest 1000000) = some (.tup [], hb 0 ((put3 m b).cells 1000000 tag) :: hb 2 (u8L b) :: (put3 m b).rest 1000000) := by
 have l1 := Scr.shut m.scr hs
 have f1 := Scr.free m.scr hs
 unfold put3
 by_cases q : b.length = 0
 ·rw [if_pos q]
  have q1 : (b.length : Int) = 0 := by omega
  simp only [Mt.rest, Mt.cells, u8L, Nat.reduceAdd]
  generalize m.scr.enc = s at l1 f1 ⊢
  refine (za8 (show T (89 + 1000000000) = some (.hcode a89) from rfl) rfl (by simp only [argEnv, Nat.reduceAdd]; apply Eq.refl) (by simp only [hb, hHeap]; apply Eq.refl)).trans ?_
  (have fA := aI @l1 (aI @f1 @q1); refine gox ?_; clear fA)
  (have fA := aI @l1 @f1; refine finhx ?_; clear fA; try with_reducible rfl)
  all_goals first | rfl
 rw [if_neg q]
 have q1 : ¬ (b.length : Int) = 0 := by omega
 have w : IntKind.i64.wrap ((m.o3.length : Int) + (b.length : Int)) = (m.o3.length : Int) + b.length := w_i64 (by omega) (by omega)
 by_cases q2 : (m.o3.length : Int) + b.length > m.most
 ·rw [if_pos q2]
  have w2 : IntKind.i64.wrap (m.lost + 1) = m.lost + 1 := w_i64 (by omega) (by omega)
  have q3 : IntKind.i64.wrap ((m.o3.length : Int) + (b.length : Int)) > m.most := by rw [w]; exact q2
  have q4 : m.most < IntKind.i64.wrap ((m.o3.length : Int) + (b.length : Int)) := q3
  simp only [Mt.rest, Mt.cells, u8L, Nat.reduceAdd]
  generalize m.scr.enc = s at l1 f1 ⊢
  refine (za8 (show T (89 + 1000000000) = some (.hcode a89) from rfl) rfl (by simp only [argEnv, Nat.reduceAdd]; apply Eq.refl) (by simp only [hb, hHeap]; apply Eq.refl)).trans ?_
  (have fA := aI @l1 @f1; refine gox ?_; clear fA)
  (have fA := aI @l1 @f1; refine finhx ?_; clear fA; try with_reducible rfl)
  rw [w2]
  all_goals first | rfl
 ·rw [if_neg q2]
  have q3 : ¬ IntKind.i64.wrap ((m.o3.length : Int) + (b.length : Int)) > m.most := by rw [w]; exact q2
  have q4 : ¬ m.most < IntKind.i64.wrap ((m.o3.length : Int) + (b.length : Int)) := q3
  have e1 : m.o3.length + b.length ≤ 140737488355328 := by omega
  have tk : (b.map (AV.int .u8)).take b.length = b.map (AV.int .u8) := by simp
  have e35 : 32 + Int.toNat 3 = 35 := rfl
  have tk3 : (m.o3.map (AV.int .u8)).take m.o3.length = m.o3.map (AV.int .u8) := by simp
  have tk2 : (m.o3.map (AV.int .u8)).length = m.o3.length := by simp
  simp only [Mt.rest, Mt.cells, u8L, Nat.reduceAdd, List.length_append, List.map_append]
  generalize m.scr.enc = s at l1 f1 ⊢
  refine (za8 (show T (89 + 1000000000) = some (.hcode a89) from rfl) rfl (by simp only [argEnv, Nat.reduceAdd]; apply Eq.refl) (by simp only [hb, hHeap]; apply Eq.refl)).trans ?_
  (have fA := aI @l1 (aI @f1 (aI @e1 (aI @tk (aI @tk2 (aI @tk3 @e35))))); refine gox ?_; clear fA)
  (have fA := aI @l1 @f1; refine finhx ?_; clear fA; try with_reducible rfl)
  all_goals first | rfl
end
section
attribute [local simp] Ev.flen Ev.rd Ev.enc Slot.flen Slot.rd Slot.pute Slot.zero Slot.enc Cell.flen Cell.rd Cell.put Cell.pute Cell.zero Cell.enc
theorem t_sendI2 (tag : Nat) (m : Mt) (hs : m.scr.Ok) (b : List Int) (hm : 0 ≤ m.most ∧ m.most ≤ 4096) (hb' : b.length < 1000) (ho : m.o2.length < 5000) (hl : 0 ≤ m.lost ∧ m.lost < 1000000000) :
  callH L T 89 tag [.ref 0 (tag, 0) 0, .int .i64 2, .isl 1 b.length (u8L b)] (hb 0 (m.cells 1000000 tag) :: m.rest 1000000) = some (.tup [], hb 0 ((put2 m b).cells 1000000 tag) :: (put2 m b).rest 1000000) := by
 have l1 := Scr.shut m.scr hs
 have f1 := Scr.free m.scr hs
 unfold put2
 by_cases q : b.length = 0
 ·rw [if_pos q]
  have q1 : (b.length : Int) = 0 := by omega
  simp only [Mt.rest, Mt.cells, u8L, Nat.reduceAdd]
  generalize m.scr.enc = s at l1 f1 ⊢
  refine (za8 (show T (89 + 1000000000) = some (.hcode a89) from rfl) rfl (by simp only [argEnv, Nat.reduceAdd]; apply Eq.refl) (by simp only [hb, hHeap]; apply Eq.refl)).trans ?_
  (have fA := aI @l1 (aI @f1 @q1); refine gox ?_; clear fA)
  (have fA := aI @l1 @f1; refine finhx ?_; clear fA; try with_reducible rfl)
  all_goals first | rfl
 rw [if_neg q]
 have q1 : ¬ (b.length : Int) = 0 := by omega
 have w : IntKind.i64.wrap ((m.o2.length : Int) + (b.length : Int)) = (m.o2.length : Int) + b.length := w_i64 (by omega) (by omega)
 by_cases q2 : (m.o2.length : Int) + b.length > m.most
 ·rw [if_pos q2]
  have w2 : IntKind.i64.wrap (m.lost + 1) = m.lost + 1 := w_i64 (by omega) (by omega)
  have q3 : IntKind.i64.wrap ((m.o2.length : Int) + (b.length : Int)) > m.most := by rw [w]; exact q2
  have q4 : m.most < IntKind.i64.wrap ((m.o2.length : Int) + (b.length : Int)) := q3
  simp only [Mt.rest, Mt.cells, u8L, Nat.reduceAdd]
  generalize m.scr.enc = s at l1 f1 ⊢
  refine (za8 (show T (89 + 1000000000) = some (.hcode a89) from rfl) rfl (by simp only [argEnv, Nat.reduceAdd]; apply Eq.refl) (by simp only [hb, hHeap]; apply Eq.refl)).trans ?_
  (have fA := aI @l1 @f1; refine gox ?_; clear fA)
  (have fA := aI @l1 @f1; refine finhx ?_; clear fA; try with_reducible rfl)
  rw [w2]
  all_goals first | rfl
 ·rw [if_neg q2]
  have q3 : ¬ IntKind.i64.wrap ((m.o2.length : Int) + (b.length : Int)) > m.most := by rw [w]; exact q2
  have q4 : ¬ m.most < IntKind.i64.wrap ((m.o2.length : Int) + (b.length : Int)) := q3
  have e1 : m.o2.length + b.length ≤ 140737488355328 := by omega
  have tk : (b.map (AV.int .u8)).take b.length = b.map (AV.int .u8) := by simp
  have e34 : 32 + Int.toNat 2 = 34 := rfl
  have tk3 : (m.o2.map (AV.int .u8)).take m.o2.length = m.o2.map (AV.int .u8) := by simp
  have tk2 : (m.o2.map (AV.int .u8)).length = m.o2.length := by simp
  simp only [Mt.rest, Mt.cells, u8L, Nat.reduceAdd, List.length_append, List.map_append]
  generalize m.scr.enc = s at l1 f1 ⊢
  refine (za8 (show T (89 + 1000000000) = some (.hcode a89) from rfl) rfl (by simp only [argEnv, Nat.reduceAdd]; apply Eq.refl) (by simp only [hb, hHeap]; apply Eq.refl)).trans ?_
  (have fA := aI @l1 (aI @f1 (aI @e1 (aI @tk (aI @tk2 (aI @tk3 @e34))))); refine gox ?_; clear fA)
  (have fA := aI @l1 @f1; refine finhx ?_; clear fA; try with_reducible rfl)
  all_goals first | rfl
theorem t_sendI3 (tag : Nat) (m : Mt) (hs : m.scr.Ok) (b : List Int) (hm : 0 ≤ m.most ∧ m.most ≤ 4096) (hb' : b.length < 1000) (ho : m.o3.length < 5000) (hl : 0 ≤ m.lost ∧ m.lost < 1000000000) :
  callH L T 89 tag [.ref 0 (tag, 0) 0, .int .i64 3, .isl 1 b.length (u8L b)] (hb 0 (m.cells 1000000 tag) :: m.rest 1000000) = some (.tup [], hb 0 ((put3 m b).cells 1000000 tag) :: (put3 m b).rest 1000000) := by
 have l1 := Scr.shut m.scr hs
 have f1 := Scr.free m.scr hs
 unfold put3
 by_cases q : b.length = 0
 ·rw [if_pos q]
  have q1 : (b.length : Int) = 0 := by omega
  simp only [Mt.rest, Mt.cells, u8L, Nat.reduceAdd]
  generalize m.scr.enc = s at l1 f1 ⊢
  refine (za8 (show T (89 + 1000000000) = some (.hcode a89) from rfl) rfl (by simp only [argEnv, Nat.reduceAdd]; apply Eq.refl) (by simp only [hb, hHeap]; apply Eq.refl)).trans ?_
  (have fA := aI @l1 (aI @f1 @q1); refine gox ?_; clear fA)
  (have fA := aI @l1 @f1; refine finhx ?_; clear fA; try with_reducible rfl)
  all_goals first | rfl
 rw [if_neg q]
 have q1 : ¬ (b.length : Int) = 0 := by omega
 have w : IntKind.i64.wrap ((m.o3.length : Int) + (b.length : Int)) = (m.o3.length : Int) + b.length := w_i64 (by omega) (by omega)
 by_cases q2 : (m.o3.length : Int) + b.length > m.most
 ·rw [if_pos q2]
  have w2 : IntKind.i64.wrap (m.lost + 1) = m.lost + 1 := w_i64 (by omega) (by omega)
  have q3 : IntKind.i64.wrap ((m.o3.length : Int) + (b.length : Int)) > m.most := by rw [w]; exact q2
  have q4 : m.most < IntKind.i64.wrap ((m.o3.length : Int) + (b.length : Int)) := q3
  simp only [Mt.rest, Mt.cells, u8L, Nat.reduceAdd]
  generalize m.scr.enc = s at l1 f1 ⊢
  refine (za8 (show T (89 + 1000000000) = some (.hcode a89) from rfl) rfl (by simp only [argEnv, Nat.reduceAdd]; apply Eq.refl) (by simp only [hb, hHeap]; apply Eq.refl)).trans ?_
  (have fA := aI @l1 @f1; refine gox ?_; clear fA)
  (have fA := aI @l1 @f1; refine finhx ?_; clear fA; try with_reducible rfl)
  rw [w2]
  all_goals first | rfl
 ·rw [if_neg q2]
  have q3 : ¬ IntKind.i64.wrap ((m.o3.length : Int) + (b.length : Int)) > m.most := by rw [w]; exact q2
  have q4 : ¬ m.most < IntKind.i64.wrap ((m.o3.length : Int) + (b.length : Int)) := q3
  have e1 : m.o3.length + b.length ≤ 140737488355328 := by omega
  have tk : (b.map (AV.int .u8)).take b.length = b.map (AV.int .u8) := by simp
  have e35 : 32 + Int.toNat 3 = 35 := rfl
  have tk3 : (m.o3.map (AV.int .u8)).take m.o3.length = m.o3.map (AV.int .u8) := by simp
  have tk2 : (m.o3.map (AV.int .u8)).length = m.o3.length := by simp
  simp only [Mt.rest, Mt.cells, u8L, Nat.reduceAdd, List.length_append, List.map_append]
  generalize m.scr.enc = s at l1 f1 ⊢
  refine (za8 (show T (89 + 1000000000) = some (.hcode a89) from rfl) rfl (by simp only [argEnv, Nat.reduceAdd]; apply Eq.refl) (by simp only [hb, hHeap]; apply Eq.refl)).trans ?_
  (have fA := aI @l1 (aI @f1 (aI @e1 (aI @tk (aI @tk2 (aI @tk3 @e35))))); refine gox ?_; clear fA)
  (have fA := aI @l1 @f1; refine finhx ?_; clear fA; try with_reducible rfl)
  all_goals first | rfl
end
section
attribute [local simp] Ev.flen Ev.rd Ev.enc Slot.flen Slot.rd Slot.pute Slot.zero Slot.enc Cell.flen Cell.rd Cell.put Cell.pute Cell.zero Cell.enc
def ansm (m : Mt) (to : Int) (b : List Int) : Mt := if to = 2 then put2 m b else if to = 3 then put3 m b else m
def rnd (to : Int) (hs an : Bool) (m : Mt) (e : Ev) : Mt :=
 if e.kind ≠ 10 then (if hs then { m with scr := sEvent m.scr e } else m) else
 let q := askF m.ps e
 let m2 := { m with ps := q.1, scr := { m.scr with roll := q.1.roll } }
 if an then ansm m2 to (even q.2) else m2
theorem ask_le (s : PS) (e : Ev) : (askF s e).2.length ≤ 5 := by
 unfold askF
 split
 ·unfold withEcho firstF secondF thirdF linkL
  simp only
  repeat' split
  all_goals simp
 ·simp
theorem t_rnd (tag : Nat) (m : Mt) (hk : m.scr.Ok) (e : Ev) (to : Int) (hs an : Bool) (hto : an = true → to = 2 ∨ to = 3) (hm : 0 ≤ m.most ∧ m.most ≤ 4096) (ho2 : m.o2.length < 5000) (ho3 : m.o3.length < 5000) (hl : 0 ≤ m.lost ∧ m.lost < 1000000000) :
  callY L T y90_0 tag [.agg e.enc, .ref 250001 (tag, 0) 0, .ref 250002 (tag, 0) 0, .ref 250003 (tag, 0) 0, .ref 250004 (tag, 0) 0, .ref 250005 (tag, 0) 0]
   (hb 250001 (m.cells 250002000000 tag) :: hb 250002 [.ref 250001 (tag, 0) 0] :: hb 250003 [.int .i64 to] :: hb 250004 [.bool hs] :: hb 250005 [.bool an] :: m.rest 250002000000) =
  some (.bool true, hb 250001 ((rnd to hs an m e).cells 250002000000 tag) :: hb 250002 [.ref 250001 (tag, 0) 0] :: hb 250003 [.int .i64 to] :: hb 250004 [.bool hs] :: hb 250005 [.bool an] :: (rnd to hs an m e).rest 250002000000) := by
 have l1 := Scr.shut m.scr hk
 have f1 := Scr.free m.scr hk
 simp only [Mt.rest, Mt.cells, u8L, Nat.reduceAdd]
 refine (call_exY (show T (y90_0.num + 1000000000) = some (.ycode y90_0 a90.ann) from by rw [show y90_0.num = 1000900 from mkY_num]; rfl) (by apply Eq.refl) (by apply Eq.refl) (by apply Eq.refl) (by apply Eq.refl) (by simp only [hb, hHeap]; apply Eq.refl)).trans ?_
 obtain ⟨kind, a, b, c, d, set, code⟩ := e
 by_cases q : kind = 10
 ·rw [show rnd to hs an m ⟨kind, a, b, c, d, set, code⟩ = (if an then ansm { m with ps := (askF m.ps ⟨kind, a, b, c, d, set, code⟩).1, scr := { m.scr with roll := (askF m.ps ⟨kind, a, b, c, d, set, code⟩).1.roll } } to (even (askF m.ps ⟨kind, a, b, c, d, set, code⟩).2) else { m with ps := (askF m.ps ⟨kind, a, b, c, d, set, code⟩).1, scr := { m.scr with roll := (askF m.ps ⟨kind, a, b, c, d, set, code⟩).1.roll } }) from if_neg (fun h => h q)]
  have hal := ask_le m.ps ⟨kind, a, b, c, d, set, code⟩
  have cA := fun t => zpc t m.ps ⟨kind, a, b, c, d, set, code⟩
  generalize askF m.ps ⟨kind, a, b, c, d, set, code⟩ = r at cA hal ⊢
  obtain ⟨ps2, ans⟩ := r
  simp only at hal
  have hans : ans.length < 1000000 := by omega
  have cR := fun t => t_Rolls t m.scr hk ps2.roll
  have hk2 : ({ m.scr with roll := ps2.roll } : Scr).Ok := ⟨hk.sl, hk.r0, hk.r1, hk.c0, hk.c1, hk.q0, hk.q1, hk.d0, hk.d1⟩
  have es := zb2 hk hk2
  have et := zbv hk
  have et2 := zbv hk2
  have el := zam hk
  have el2 := zam hk2
  have l2 := Scr.shut _ hk2
  have f2 := Scr.free _ hk2
  have le := Ev.len ⟨kind, a, b, c, d, set, code⟩
  cases an with
  | false =>
   rw [if_neg (by simp)]
   simp only
   generalize ({ m.scr with roll := ps2.roll } : Scr).enc = s2 at cR es et2 el2 l2 f2 ⊢
   generalize m.scr.enc = s at l1 f1 cR es et el ⊢
   simp only [Ev.enc, PS.enc] at le cA ⊢
   (have fA := aI @l1 (aI @f1 (aI @le (aI @es (aI @et (aI @el (aI @et2 (aI @el2 (aI @l2 @f2)))))))); have c1 := fun x1 => cA x1; have c2 := fun x1 => cR x1; refine gox ?_; clear fA c1 c2)
   (have fA := aI @l1 (aI @f1 (aI @l2 @f2)); refine finyx ?_; clear fA; try with_reducible rfl)
   all_goals first | rfl
  | true =>
   rw [if_pos rfl]
   have hto2 := hto rfl
   clear hto
   have cK := fun t => zj6 t ans hans
   obtain ⟨most, scr, ps, p0, h0, p1, h1, p2, h2, p3, h3, o0, o1, o2, o3, lost⟩ := m
   simp only at *
   have hel : (even ans).length < 1000 := by rw [zco]; omega
   rcases hto2 with rfl | rfl
   ·have cS := fun t => t_sendI2 t ⟨most, { scr with roll := ps2.roll }, ps2, p0, h0, p1, h1, p2, h2, p3, h3, o0, o1, o2, o3, lost⟩ hk2 (even ans) hm hel ho2 hl
    rw [show ansm ⟨most, { scr with roll := ps2.roll }, ps2, p0, h0, p1, h1, p2, h2, p3, h3, o0, o1, o2, o3, lost⟩ 2 (even ans) = put2 ⟨most, { scr with roll := ps2.roll }, ps2, p0, h0, p1, h1, p2, h2, p3, h3, o0, o1, o2, o3, lost⟩ (even ans) from if_pos rfl]
    have hscr : (put2 ⟨most, { scr with roll := ps2.roll }, ps2, p0, h0, p1, h1, p2, h2, p3, h3, o0, o1, o2, o3, lost⟩ (even ans)).scr = { scr with roll := ps2.roll } := by unfold put2; split <;> (try split) <;> rfl
    generalize put2 ⟨most, { scr with roll := ps2.roll }, ps2, p0, h0, p1, h1, p2, h2, p3, h3, o0, o1, o2, o3, lost⟩ (even ans) = M at cS hscr ⊢
    obtain ⟨most', scr', ps', p0', h0', p1', h1', p2', h2', p3', h3', o0', o1', o2', o3', lost'⟩ := M
    simp only at hscr
    rw [hscr] at cS ⊢
    simp only [Mt.rest, Mt.cells, u8L, zco, Nat.reduceAdd] at cS ⊢
    generalize ({ scr with roll := ps2.roll } : Scr).enc = s2 at cR cS es et2 el2 l2 f2 ⊢
    generalize scr.enc = s at l1 f1 cR es et el ⊢
    simp only [Ev.enc, PS.enc] at le cA ⊢
    (have fA := aI @l1 (aI @f1 (aI @le (aI @es (aI @et (aI @el (aI @et2 (aI @el2 (aI @l2 @f2)))))))); have c1 := fun x1 => cA x1; have c2 := fun x1 => cR x1; have c3 := fun x1 => cK x1; have c4 := fun x1 => cS x1; refine gox ?_; clear fA c1 c2 c3 c4)
    (have fA := aI @l1 (aI @f1 (aI @l2 @f2)); refine finyx ?_; clear fA; try with_reducible rfl)
    all_goals first | rfl
   ·have cS := fun t => t_sendI3 t ⟨most, { scr with roll := ps2.roll }, ps2, p0, h0, p1, h1, p2, h2, p3, h3, o0, o1, o2, o3, lost⟩ hk2 (even ans) hm hel ho3 hl
    rw [show ansm ⟨most, { scr with roll := ps2.roll }, ps2, p0, h0, p1, h1, p2, h2, p3, h3, o0, o1, o2, o3, lost⟩ 3 (even ans) = put3 ⟨most, { scr with roll := ps2.roll }, ps2, p0, h0, p1, h1, p2, h2, p3, h3, o0, o1, o2, o3, lost⟩ (even ans) from by unfold ansm; rw [if_neg (by decide), if_pos rfl]]
    have hscr : (put3 ⟨most, { scr with roll := ps2.roll }, ps2, p0, h0, p1, h1, p2, h2, p3, h3, o0, o1, o2, o3, lost⟩ (even ans)).scr = { scr with roll := ps2.roll } := by unfold put3; split <;> (try split) <;> rfl
    generalize put3 ⟨most, { scr with roll := ps2.roll }, ps2, p0, h0, p1, h1, p2, h2, p3, h3, o0, o1, o2, o3, lost⟩ (even ans) = M at cS hscr ⊢
    obtain ⟨most', scr', ps', p0', h0', p1', h1', p2', h2', p3', h3', o0', o1', o2', o3', lost'⟩ := M
    simp only at hscr
    rw [hscr] at cS ⊢
    simp only [Mt.rest, Mt.cells, u8L, zco, Nat.reduceAdd] at cS ⊢
    generalize ({ scr with roll := ps2.roll } : Scr).enc = s2 at cR cS es et2 el2 l2 f2 ⊢
    generalize scr.enc = s at l1 f1 cR es et el ⊢
    simp only [Ev.enc, PS.enc] at le cA ⊢
    (have fA := aI @l1 (aI @f1 (aI @le (aI @es (aI @et (aI @el (aI @et2 (aI @el2 (aI @l2 @f2)))))))); have c1 := fun x1 => cA x1; have c2 := fun x1 => cR x1; have c3 := fun x1 => cK x1; have c4 := fun x1 => cS x1; refine gox ?_; clear fA c1 c2 c3 c4)
    (have fA := aI @l1 (aI @f1 (aI @l2 @f2)); refine finyx ?_; clear fA; try with_reducible rfl)
    all_goals first | rfl
 ·rw [show rnd to hs an m ⟨kind, a, b, c, d, set, code⟩ = (if hs then { m with scr := sEvent m.scr ⟨kind, a, b, c, d, set, code⟩ } else m) from if_pos q]
  cases hs with
  | false =>
   rw [if_neg (by simp)]
   generalize m.scr.enc = s at l1 f1 ⊢
   have le := Ev.len ⟨kind, a, b, c, d, set, code⟩
   simp only [Ev.enc] at le ⊢
   (have fA := aI @l1 (aI @f1 @le); refine gox ?_; clear fA)
   (have fA := aI @l1 @f1; refine finyx ?_; clear fA; try with_reducible rfl)
   all_goals first | rfl
  | true =>
   rw [if_pos rfl]
   have cE := fun t => t_Event t m.scr hk ⟨kind, a, b, c, d, set, code⟩
   have hk2 := hk.event ⟨kind, a, b, c, d, set, code⟩
   have es := zb2 hk hk2
   have et := zbv hk
   have et2 := zbv hk2
   have el := zam hk
   have el2 := zam hk2
   have ep := enc_pl hk2
   have l2 := Scr.shut _ hk2
   have f2 := Scr.free _ hk2
   have le := Ev.len ⟨kind, a, b, c, d, set, code⟩
   simp only
   generalize (sEvent m.scr ⟨kind, a, b, c, d, set, code⟩).enc = s2 at cE es et2 el2 ep l2 f2 ⊢
   generalize m.scr.enc = s at l1 f1 cE es et el ⊢
   simp only [Ev.enc] at le cE ⊢
   (have fA := aI @l1 (aI @f1 (aI @le (aI @es (aI @et (aI @el (aI @et2 (aI @el2 (aI @ep (aI @l2 @f2))))))))); have c1 := fun x1 => cE x1; refine gox ?_; clear fA c1)
   (have fA := aI @l1 (aI @f1 (aI @l2 @f2)); refine finyx ?_; clear fA; try with_reducible rfl)
   all_goals first | rfl
end
section
attribute [local simp] Ev.flen Ev.rd Ev.enc
theorem zla (tag : Nat) (l : List Int) (hl : l.length < 1000000) : callω L T 84 tag [.isl 1 l.length (l.map (.int .u8))] [none] = some (.fsl 1 l.length (l.map (.int .u8)), [none]) := by
 refine (zn3 (L := L) (T := T) (show T 84 = some (.law (cloneLaw 1 1)) from rfl) (tag := tag)).trans ?_
 have : (l.map (AV.int .u8)).all AV.plain = true := by simp [AV.plain]
 unfold cloneLaw
 simp only [true_and]
 rw [if_pos ⟨by simp, by omega, this⟩]
theorem t_All_28 (tag : Nat) (pre post : List AV) (hpre : pre.length = 28) (h1 : freeL tag pre = true) (h2 : freeL tag post = true) (p : List Int) (sh : Int) (b : List Int) (hb' : b.length < 1000) :
  callH L T 136 tag [.ref 0 (tag, 0) 28, .msl 1 (tag, 0) 1 0 b.length] [hb 0 (pre ++ .msl 1000028 (tag, 0) 1 0 p.length :: .int .i64 sh :: post), hb 1 (u8L b), hb 1000028 (u8L p)] =
  some (.fn 182 [.ref 400001000000 (tag, 0) 0, .ref 400001000001 (tag, 0) 0], [hb 0 (pre ++ .msl 1000028 (tag, 0) 1 0 p.length :: .int .i64 sh :: post), hb 1 (u8L b), hb 1000028 (u8L p), hb 400001000000 [.msl 400001000001000000 (tag, 0) 1 0 b.length], hb 400001000001 [.ref 0 (tag, 0) 28], hb 400001000001000000 (u8L b)]) := by
 unfold u8L
 refine (za8 (show T (136 + 1000000000) = some (.hcode a136) from rfl) rfl (by simp only [argEnv, Nat.reduceAdd]; apply Eq.refl) (by simp only [hb, hHeap]; apply Eq.refl)).trans ?_
 have l1 := zac h1
 have l2 := zac h2
 have tk : (List.map (AV.int IntKind.u8) b).take b.length = List.map (AV.int IntKind.u8) b := by simp
 (have fA := aI @hpre (aI @l1 (aI @l2 (aI @h1 (aI @h2 @tk)))); have c1 := fun x1 => zla x1 b (by omega); refine gox ?_; clear fA c1)
 (have fA := aI @hpre (aI @l1 (aI @l2 (aI @h1 @h2))); refine finhx ?_; clear fA; try with_reducible rfl)
 all_goals first | rfl
end
section
attribute [local simp] Ev.flen Ev.rd Ev.enc Slot.flen Slot.rd Slot.pute Slot.zero Slot.enc Cell.flen Cell.rd Cell.put Cell.pute Cell.zero Cell.enc
def hd4 (p : List Int) : Prop := p.length = 0 ∨ p.getD 0 0 = 18 ∨ p.getD 0 0 = 25 ∨ p.getD 0 0 = 27 ∨ p.getD 0 0 = 31
theorem app_g0 {p : List Int} {c : Int} (h : 0 < p.length) : (p ++ [c]).getD 0 0 = p.getD 0 0 := by
 rw [List.getD_eq_getElem?_getD, List.getD_eq_getElem?_getD, List.getElem?_append_left h]
theorem app_g1 {p : List Int} {c : Int} (h : 1 < p.length) : (p ++ [c]).getD 1 0 = p.getD 1 0 := by
 rw [List.getD_eq_getElem?_getD, List.getD_eq_getElem?_getD, List.getElem?_append_left h]
theorem app_g1' {p : List Int} {c : Int} (h : p.length = 1) : (p ++ [c]).getD 1 0 = c := by
 rw [List.getD_eq_getElem?_getD, List.getElem?_append_right (by omega), h]
 rfl
def lxFit (r : LX) : Prop := lxOk r.1 ∧ hd4 r.1 ∧ r.2.2.length ≤ 1
theorem ze2 (sh : Int) (e : Ev) : lxFit (lxEnd sh [e]) :=
 ⟨⟨by intro x hx; simp [lxEnd] at hx, by simp [lxEnd], by simp [lxEnd]⟩, .inl rfl, by simp [lxEnd]⟩
theorem fit_go {p : List Int} {sh c : Int} (h : lxOk p) (hd : hd4 p) (h0 : p.length ≠ 0) (c0 : 0 ≤ c) (c1 : c < 128) (h1 : p.length < 15)
  (h2 : p.getD 0 0 = 27 → (p.length = 1 ∧ (57 ≤ c → c ≤ 59 → 2 < 2 + (c - 56).toNat)) ∨ (1 < p.length ∧ (57 ≤ p.getD 1 0 → p.getD 1 0 ≤ 59 → p.length + 1 < 2 + (p.getD 1 0 - 56).toNat))) : lxFit (lxGo p sh c) := by
 refine ⟨⟨?_, ?_, ?_⟩, ?_, by simp [lxGo]⟩
 ·intro x hx
  simp only [lxGo, List.mem_append, List.mem_singleton] at hx
  rcases hx with hx | rfl
  ·exact h.1 x hx
  ·exact ⟨c0, c1⟩
 ·simp only [lxGo, List.length_append, List.length_singleton]; omega
 ·simp only [lxGo, List.length_append, List.length_singleton]
  intro q1 q2 q3 q4
  rw [app_g0 (by omega)] at q2
  rcases h2 q2 with ⟨a, b⟩ | ⟨a, b⟩
  ·rw [app_g1' a] at q3 q4 ⊢
   have := b q3 q4
   omega
  ·rw [app_g1 a] at q3 q4 ⊢
   exact b q3 q4
 ·right
  simp only [lxGo]
  rw [app_g0 (by omega)]
  rcases hd with hd | hd
  ·exact absurd hd h0
  ·exact hd
theorem ctlE_le (c : Int) : (ctlE c).length ≤ 1 := by
 unfold ctlE
 repeat' split
 all_goals simp
theorem fit_ctl {sh c : Int} (c0 : 0 ≤ c) (c1 : c < 128) : lxOk (ctl [] sh c).1 ∧ hd4 (ctl [] sh c).1 ∧ (ctl [] sh c).2.2.length ≤ 1 := by
 have n0 : lxOk [] := ⟨by simp, by simp, by simp⟩
 unfold ctl
 split
 ·rename_i q
  refine ⟨⟨?_, by simp, by simp⟩, ?_, by simp⟩
  ·intro x hx
   simp only [List.mem_singleton] at hx
   omega
  ·right; simpa using q
 ·split
  ·exact ⟨n0, .inl rfl, by simp⟩
  ·split
   ·exact ⟨n0, .inl rfl, by simp⟩
   ·exact ⟨n0, .inl rfl, ctlE_le c⟩
theorem endE_one (b : List Int) (c : Int) : ∃ e, endE b c = [e] := by
 unfold endE
 repeat' split
 all_goals exact ⟨_, rfl⟩
theorem fit_esc {p : List Int} {sh c : Int} (h : lxOk p) (hd : hd4 p) (h0 : p.length ≠ 0) (c0 : 0 ≤ c) (c1 : c < 128) (h27 : p.getD 0 0 = 27) : lxFit (esc p sh c) := by
 unfold esc
 by_cases q1 : 1 < p.length ∧ p.getD 1 0 = 91
 ·rw [if_pos q1]
  unfold sqn
  split
  ·rename_i q
   have : (p.drop 2).length = p.length - 2 := by simp
   exact fit_go h hd h0 c0 c1 (by omega) fun _ => .inr ⟨q1.1, by omega⟩
  ·split
   ·exact ze2 _ _
   ·obtain ⟨e, he⟩ := endE_one (p.drop 2) c
    rw [he]; exact ze2 _ _
 rw [if_neg q1]
 by_cases q2 : 1 < p.length ∧ 57 ≤ p.getD 1 0 ∧ p.getD 1 0 ≤ 59
 ·rw [if_pos q2]
  unfold ask
  split
  ·rename_i q
   have e : ((p ++ [c]).drop 2).length = p.length + 1 - 2 := by simp
   rw [e] at q
   exact fit_go h hd h0 c0 c1 (by omega) fun _ => .inr ⟨q2.1, fun _ _ => by omega⟩
  ·exact ze2 _ _
 rw [if_neg q2]
 by_cases q3 : c < 48 ∧ p.length < 15
 ·rw [if_pos q3]
  refine fit_go h hd h0 c0 c1 q3.2 fun _ => ?_
  by_cases q : 1 < p.length
  ·exact .inr ⟨q, fun a b => absurd ⟨q, a, b⟩ q2⟩
  ·exact .inl ⟨by omega, by omega⟩
 rw [if_neg q3]
 by_cases q4 : c < 48 ∨ 1 < p.length
 ·rw [if_pos q4]; exact ze2 _ _
 rw [if_neg q4]
 by_cases q5 : c = 91 ∨ (57 ≤ c ∧ c ≤ 59)
 ·rw [if_pos q5]
  refine fit_go h hd h0 c0 c1 (by omega) fun _ => .inl ⟨by omega, by omega⟩
 rw [if_neg q5]
 split <;> exact ze2 _ _
theorem lxB_ok {p : List Int} {sh b : Int} (h : lxOk p) (hd : hd4 p) (b0 : 0 ≤ b) (b1 : b < 256) : lxOk (lxB p sh b).1 ∧ hd4 (lxB p sh b).1 ∧ (lxB p sh b).2.2.length ≤ 2 := by
 obtain ⟨c0, c1⟩ := zpa b0 b1
 have up : ∀ {r : LX}, lxFit r → lxOk r.1 ∧ hd4 r.1 ∧ r.2.2.length ≤ 2 := fun h => ⟨h.1, h.2.1, Nat.le_succ_of_le h.2.2⟩
 unfold lxB
 generalize lxC b = c at c0 c1 ⊢
 by_cases q1 : c < 32
 ·rw [if_pos q1]
  obtain ⟨a1, a2, a3⟩ := fit_ctl (sh := sh) c0 c1
  refine ⟨a1, a2, ?_⟩
  simp only [List.length_append]
  split <;> simp <;> omega
 rw [if_neg q1]
 by_cases q2 : p.length = 0
 ·rw [if_pos q2]; exact ⟨h, hd, by simp⟩
 rw [if_neg q2]
 by_cases q3 : p.getD 0 0 = 18
 ·rw [if_pos q3]; exact up (ze2 _ _)
 rw [if_neg q3]
 by_cases q4 : p.getD 0 0 = 25
 ·rw [if_pos q4]
  unfold sgn
  split
  ·exact up (ze2 _ _)
  ·split
   ·exact up (fit_go h hd q2 c0 c1 (by omega) fun q => by omega)
   ·exact up (ze2 _ _)
 rw [if_neg q4]
 by_cases q5 : p.getD 0 0 = 31
 ·rw [if_pos q5]
  unfold plc
  split
  ·exact up (fit_go h hd q2 c0 c1 (by omega) fun q => by omega)
  ·split <;> exact up (ze2 _ _)
 rw [if_neg q5]
 exact up (fit_esc h hd q2 c0 c1 (by rcases hd with hd | hd | hd | hd | hd <;> first | exact hd | exact absurd hd (by assumption)))
end
section
attribute [local simp] Ev.flen Ev.rd Ev.enc Slot.flen Slot.rd Slot.pute Slot.zero Slot.enc Cell.flen Cell.rd Cell.put Cell.pute Cell.zero Cell.enc
def read2 (hs an : Bool) (m : Mt) (x : Int) : Mt := (lxB m.p2 m.h2 x).2.2.foldl (rnd 2 hs an) { m with p2 := (lxB m.p2 m.h2 x).1, h2 := (lxB m.p2 m.h2 x).2.1 }
def reads2 (hs an : Bool) (m : Mt) (bs : List Int) : Mt := bs.foldl (read2 hs an) m
structure Mt.Ok (m : Mt) (n : Nat) : Prop where
  scr : m.scr.Ok
  lx : lxOk m.p2
  hd : hd4 m.p2
  m0 : 0 ≤ m.most
  m1 : m.most ≤ 4096
  o2 : m.o2.length ≤ 4096
  o3 : m.o3.length ≤ 4096
  l0 : 0 ≤ m.lost
  l1 : m.lost ≤ n
theorem put2_ok {m : Mt} {n : Nat} (h : m.Ok n) (b : List Int) : (put2 m b).Ok (n + 1) := by
  have := h.l1
  have h0 := h.l0
  unfold put2
  split
  · exact { h with l1 := by omega }
  · split
    · exact { h with l0 := by simp only; omega, l1 := by simp only; omega }
    · have := h.m1
      exact { h with o2 := by simp only [List.length_append]; omega, l1 := by simp only; omega }
theorem put3_ok {m : Mt} {n : Nat} (h : m.Ok n) (b : List Int) : (put3 m b).Ok (n + 1) := by
  have := h.l1
  have h0 := h.l0
  unfold put3
  split
  · exact { h with l1 := by omega }
  · split
    · exact { h with l0 := by simp only; omega, l1 := by simp only; omega }
    · have := h.m1
      exact { h with o3 := by simp only [List.length_append]; omega, l1 := by simp only; omega }
theorem Mt.Ok.up {m : Mt} {n k : Nat} (h : m.Ok n) (hk : n ≤ k) : m.Ok k := { h with l1 := by have := h.l1; omega }
theorem rnd_ok {m : Mt} {n : Nat} (h : m.Ok n) (to : Int) (hs an : Bool) (e : Ev) : (rnd to hs an m e).Ok (n + 1) := by
  unfold rnd
  split
  · split
    · exact { h with scr := h.scr.event e, l1 := by have := h.l1; simp only; omega }
    · exact h.up (by omega)
  · have hk := h.scr
    have h2 : Mt.Ok { m with ps := (askF m.ps e).1, scr := { m.scr with roll := (askF m.ps e).1.roll } } n := { h with scr := ⟨hk.sl, hk.r0, hk.r1, hk.c0, hk.c1, hk.q0, hk.q1, hk.d0, hk.d1⟩ }
    simp only
    split
    · unfold ansm
      split
      · exact put2_ok h2 _
      · split
        · exact put3_ok h2 _
        · exact h2.up (by omega)
    · exact h2.up (by omega)
theorem rnds_ok (to : Int) (hs an : Bool) (es : List Ev) : ∀ {m : Mt} {n : Nat}, m.Ok n → (es.foldl (rnd to hs an) m).Ok (n + es.length) := by
  induction es with
  | nil => exact fun h => h
  | cons e es ih =>
    intro m n h
    have := ih (rnd_ok h to hs an e)
    simp only [List.foldl_cons, List.length_cons]
    exact this.up (by omega)
theorem zoh {m : Mt} {n : Nat} (h : m.Ok n) {x : Int} (h0 : 0 ≤ x) (h1 : x < 256) : Mt.Ok { m with p2 := (lxB m.p2 m.h2 x).1, h2 := (lxB m.p2 m.h2 x).2.1 } n :=
  { h with lx := (lxB_ok h.lx h.hd h0 h1).1, hd := (lxB_ok h.lx h.hd h0 h1).2.1 }
theorem read2_ok {m : Mt} {n : Nat} (h : m.Ok n) (hs an : Bool) {x : Int} (h0 : 0 ≤ x) (h1 : x < 256) : (read2 hs an m x).Ok (n + 2) :=
  (rnds_ok 2 hs an _ (zoh h h0 h1)).up (by have := (lxB_ok (sh := m.h2) h.lx h.hd h0 h1).2.2; omega)
def Mt.cl (k : Nat) (g gp : Nat × Nat) (m : Mt) : List AV :=
  [.int .i64 m.most, .ref (k + 1) g 0, .bool (m.ps.m 0), .bool (m.ps.m 1), .bool (m.ps.m 2), .bool (m.ps.m 3), .bool (m.ps.m 4), .bool (m.ps.m 5), .bool (m.ps.m 6), .bool (m.ps.m 7), .bool (m.ps.m 8), .bool (m.ps.m 9), .bool (m.ps.m 10), .bool (m.ps.m 11), .bool (m.ps.m 12), .bool (m.ps.m 13), .bool (m.ps.m 14), .bool (m.ps.m 15), .bool m.ps.roll, .bool m.ps.lower, .bool m.ps.ext, .bool m.ps.c0, .int .u8 m.ps.speed, .bool m.ps.echo,
   .msl (k + 24) g 1 0 m.p0.length, .int .i64 m.h0, .msl (k + 26) g 1 0 m.p1.length, .int .i64 m.h1, .msl (k + 28) gp 1 0 m.p2.length, .int .i64 m.h2, .msl (k + 30) g 1 0 m.p3.length, .int .i64 m.h3,
   .msl (k + 32) g 1 0 m.o0.length, .msl (k + 33) g 1 0 m.o1.length, .msl (k + 34) g 1 0 m.o2.length, .msl (k + 35) g 1 0 m.o3.length, .int .i64 m.lost]
def Mt.pre (t k : Nat) (g : Nat × Nat) (m : Mt) : List AV :=
  [.int .i64 m.most, .veil t (.ref (k + 1) g 0), .bool (m.ps.m 0), .bool (m.ps.m 1), .bool (m.ps.m 2), .bool (m.ps.m 3), .bool (m.ps.m 4), .bool (m.ps.m 5), .bool (m.ps.m 6), .bool (m.ps.m 7), .bool (m.ps.m 8), .bool (m.ps.m 9), .bool (m.ps.m 10), .bool (m.ps.m 11), .bool (m.ps.m 12), .bool (m.ps.m 13), .bool (m.ps.m 14), .bool (m.ps.m 15), .bool m.ps.roll, .bool m.ps.lower, .bool m.ps.ext, .bool m.ps.c0, .int .u8 m.ps.speed, .bool m.ps.echo,
   .veil t (.msl (k + 24) g 1 0 m.p0.length), .int .i64 m.h0, .veil t (.msl (k + 26) g 1 0 m.p1.length), .int .i64 m.h1]
def Mt.post (t k : Nat) (g : Nat × Nat) (m : Mt) : List AV :=
  [.veil t (.msl (k + 30) g 1 0 m.p3.length), .int .i64 m.h3,
   .veil t (.msl (k + 32) g 1 0 m.o0.length), .veil t (.msl (k + 33) g 1 0 m.o1.length), .veil t (.msl (k + 34) g 1 0 m.o2.length), .veil t (.msl (k + 35) g 1 0 m.o3.length), .int .i64 m.lost]
theorem fr_int (t : Nat) (k : IntKind) (x : Int) : (AV.int k x).free t = true := rfl
theorem zlg (t : Nat) (b : Bool) : (AV.bool b).free t = true := rfl
theorem Mt.pre_free (t k : Nat) (g : Nat × Nat) (m : Mt) : freeL (t + 1) (m.pre t k g) = true := by
  simp only [Mt.pre, zcd, zdo, fr_int, zlg, zdc, Bool.and_self]
theorem Mt.post_free (t k : Nat) (g : Nat × Nat) (m : Mt) : freeL (t + 1) (m.post t k g) = true := by
  simp only [Mt.post, zcd, zdo, fr_int, zlg, zdc, Bool.and_self]
def Mt.hpA (tag : Nat) (bs : List Int) (hs an : Bool) (m : Mt) (g gp : Nat × Nat) : List (Nat × Blk) :=
  [(1, ⟨(tag, 0), [.msl 2000000 (tag, 0) 1 0 bs.length]⟩), (2, ⟨(tag, 0), [.ref 1000000 (tag, 0) 28]⟩), (1000000, ⟨(tag, 0), m.cl 1000001000000 g gp⟩), (1000001, ⟨(tag, 0), [.ref 1000000 (tag, 0) 0]⟩), (1000002, ⟨(tag, 0), [.int .i64 2]⟩), (1000003, ⟨(tag, 0), [.bool hs]⟩), (1000004, ⟨(tag, 0), [.bool an]⟩), (2000000, ⟨(tag, 0), u8L bs⟩)]
def Mt.hpB (m : Mt) (g gp : Nat × Nat) : List (Nat × Blk) :=
  [(1000001000001, ⟨g, m.scr.enc⟩), (1000001000024, ⟨g, u8L m.p0⟩), (1000001000026, ⟨g, u8L m.p1⟩), (1000001000028, ⟨gp, u8L m.p2⟩), (1000001000030, ⟨g, u8L m.p3⟩), (1000001000032, ⟨g, u8L m.o0⟩), (1000001000033, ⟨g, u8L m.o1⟩), (1000001000034, ⟨g, u8L m.o2⟩), (1000001000035, ⟨g, u8L m.o3⟩)]
structure MX where
  m : Mt
  nx : Nat
  a : Nat
  ap : Nat
noncomputable def MX.env (tag : Nat) (n : Nat) (k : Nat) : List (Nat × AV) :=
  [(0, AV.yld y90_0 [.ref 1000000 (tag, 0) 0, .ref 1000001 (tag, 0) 0, .ref 1000002 (tag, 0) 0, .ref 1000003 (tag, 0) 0, .ref 1000004 (tag, 0) 0]), (2, .ref 2 (tag, 0) 0), (8, .msl 2000000 (tag, 0) 1 0 n), (9, .int .i64 n), (10, .int .i64 k)]
def Mt.outA (tag : Nat) (bs : List Int) (hs an : Bool) (m : Mt) : List (Option (List AV)) :=
  hb 1 [.msl 2000000 (tag, 0) 1 0 bs.length] :: hb 2 [.ref 1000000 (tag, 0) 28] :: hb 1000000 (m.cells 1000001000000 tag) :: hb 1000001 [.ref 1000000 (tag, 0) 0] :: hb 1000002 [.int .i64 2] :: hb 1000003 [.bool hs] :: hb 1000004 [.bool an] :: hb 2000000 (u8L bs) :: m.rest 1000001000000
theorem t_All1 (tag : Nat) (m : Mt) (N : Nat) (hN : N < 100000) (hm : m.Ok N) (bs : List Int) (hb' : bs.length < 1000) (hr : ∀ x ∈ bs, 0 ≤ x ∧ x < 256) (hs an : Bool) :
    callH L T 182 tag [.yld y90_0 [.ref 1000000 (tag, 0) 0, .ref 1000001 (tag, 0) 0, .ref 1000002 (tag, 0) 0, .ref 1000003 (tag, 0) 0, .ref 1000004 (tag, 0) 0], .ref 1 (tag, 0) 0, .ref 2 (tag, 0) 0] (m.outA tag bs hs an) = some (.tup [], (reads2 hs an m bs).outA tag bs hs an) := by
  have l1 := Scr.shut m.scr hm.scr
  have f1 := Scr.free m.scr hm.scr
  conv => lhs; simp only [Mt.outA, Mt.rest, Mt.cells, u8L, Nat.reduceAdd]
  refine (za8 (show T (182 + 1000000000) = some (.hcode a182) from rfl) rfl (by simp only [argEnv, Nat.reduceAdd]; apply Eq.refl) (by simp only [hb, hHeap]; apply Eq.refl)).trans ?_
  (have fA := aI @l1 @f1; refine gox ?_; clear fA)
  refine Eq.trans (zds (α := Int) (X := MX) (fun k x => x.m.Ok (N + 2 * k)) (fun k x => ⟨MX.env tag bs.length k, x.m.hpA tag bs hs an (tag, x.a) (tag, x.ap) ++ x.m.hpB (tag, x.a) (tag, x.ap), x.nx, tag⟩) bs
    (fun l x => some (.tup [], (reads2 hs an x.m l).outA tag bs hs an)) ?_ ?_ ⟨m, 1, 0, 0⟩ hm) rfl
  · rintro k ⟨M, nx, a, ap⟩ hk hI ih
    simp only at hI ih ⊢
    have hc := hr bs[k] (List.getElem_mem hk)
    have hk' : (k : Int) < (bs.length : Int) := by omega
    have gk : (List.map (AV.int IntKind.u8) bs)[k]? = some (.int .u8 bs[k]) := by simp [hk]
    have hd : (List.map (AV.int IntKind.u8) bs).drop k = .int .u8 bs[k] :: (List.map (AV.int IntKind.u8) bs).drop (k + 1) := by
      rw [List.drop_eq_getElem_cons (by simpa using hk)]; simp
    have hw : IntKind.i64.wrap ((k : Int) + 1) = ((k + 1 : Nat) : Int) := zah hk (by omega)
    have cB := t_Byte_28 (tag + 1) (M.pre tag 1000001000000 (tag, a)) (M.post tag 1000001000000 (tag, a)) rfl (M.pre_free _ _ _) (M.post_free _ _ _) M.p2 M.h2 bs[k] hI.lx hc.1 hc.2 hI.hd
    have hR := lxB_ok (sh := M.h2) hI.lx hI.hd hc.1 hc.2
    have hq := zoh hI hc.1 hc.2
    have hl1 := Scr.shut M.scr hI.scr
    have hf1 := Scr.free M.scr hI.scr
    have er : ∀ l, reads2 hs an M (bs[k] :: l) = reads2 hs an (read2 hs an M bs[k]) l := fun l => rfl
    rw [er]
    unfold read2
    generalize bs[k] = c at cB hR hq gk hd hc ⊢
    generalize lxB M.p2 M.h2 c = R at cB hR hq ⊢
    obtain ⟨p', sh', es⟩ := R
    simp only at cB hR hq ⊢
    obtain ⟨most, scr, ps, p0, h0, p1, h1, p2, h2, p3, h3, o0, o1, o2, o3, lost⟩ := M
    simp only [Mt.pre, Mt.post, List.cons_append, List.nil_append, Nat.reduceAdd] at cB
    simp only [MX.env, Mt.hpA, Mt.hpB, Mt.cl, u8L, List.cons_append, List.nil_append, Nat.reduceAdd]
    generalize hs1 : scr.enc = s at hl1 hf1 ⊢
    (have fA := aI @hl1 (aI @hf1 (aI @gk (aI @hd (aI @hw (aI @za3 @za2))))); have c1 := cB; refine gox ?_; clear fA c1)
    subst hs1
    refine Eq.trans (zds (α := Ev) (X := MX) (fun j x => x.m.Ok (N + 2 * k + j)) (fun j x => ⟨MX.env tag bs.length k ++ [(16, .msl 17400000 (tag, nx) 7 0 es.length), (17, .int .i64 es.length), (18, .int .i64 (j : Nat))], x.m.hpA tag bs hs an (tag, x.a) (tag, x.ap) ++ (17400000, ⟨(tag, nx), flat Ev.enc es⟩) :: x.m.hpB (tag, x.a) (tag, x.ap), x.nx, tag⟩) es
      (fun l x => some (.tup [], (reads2 hs an (l.foldl (rnd 2 hs an) x.m) (bs.drop (k + 1))).outA tag bs hs an)) ?_ ?_ ⟨⟨most, scr, ps, p0, h0, p1, h1, p', sh', p3, h3, o0, o1, o2, o3, lost⟩, nx + 1, a, nx⟩ hq) rfl
    · rintro j ⟨M, nx2, a2, ap2⟩ hj hI2 ih2
      simp only at hI2 ih2 ⊢
      have hj' : (j : Int) < (es.length : Int) := by omega
      have hjl : j + 1 ≤ es.length := hj
      have hwj : IntKind.i64.wrap ((j : Int) + 1) = ((j + 1 : Nat) : Int) := zah hj (by omega)
      have hrd := Ev.rd hj
      have hok2 := rnd_ok hI2 2 hs an es[j]
      have cY := t_rnd (tag + 1) M hI2.scr es[j] 2 hs an (fun _ => .inl rfl) ⟨hI2.m0, hI2.m1⟩ (by have := hI2.o2; omega) (by have := hI2.o3; omega) ⟨hI2.l0, by have := hI2.l1; omega⟩
      have hl3 := Scr.shut M.scr hI2.scr
      have hf3 := Scr.free M.scr hI2.scr
      have hl4 := Scr.shut _ hok2.scr
      have hf4 := Scr.free _ hok2.scr
      simp only [List.foldl_cons]
      have le := Ev.len es[j]
      generalize es[j] = e at cY hrd le hok2 hl4 hf4 ⊢
      generalize rnd 2 hs an M e = M2 at cY hok2 hl4 hf4 ⊢
      obtain ⟨kind, ea, eb, ec, ed, eset, ecode⟩ := e
      obtain ⟨most, scr, ps, p0, h0, p1, h1, p2, h2, p3, h3, o0, o1, o2, o3, lost⟩ := M
      obtain ⟨most2, scr2, ps2, p02, h02, p12, h12, p22, h22, p32, h32, o02, o12, o22, o32, lost2⟩ := M2
      simp only [Ev.enc, Mt.cells, Mt.rest, u8L, Nat.reduceAdd] at cY hrd le
      simp only at hl3 hf3 hl4 hf4
      simp only [MX.env, Mt.hpA, Mt.hpB, Mt.cl, u8L, List.cons_append, List.nil_append, Nat.reduceAdd]
      generalize hs1 : scr.enc = s at hl3 hf3 cY ⊢
      generalize hs2 : scr2.enc = s2 at hl4 hf4 cY ⊢
      (have fA := aI @hl3 (aI @hf3 (aI @hl4 (aI @hf4 (aI @hrd (aI @le (aI @hwj (aI @za3 @za2))))))); have c1 := cY; refine gox ?_; clear fA c1)
      subst hs2
      refine Eq.trans ?_ (ih2 ⟨⟨most2, scr2, ps2, p02, h02, p12, h12, p22, h22, p32, h32, o02, o12, o22, o32, lost2⟩, nx2 + 1 + 1, nx2 + 1, nx2 + 1⟩ hok2)
      refine zaa ?_ rfl rfl
      simp only [MX.env, List.cons_append, List.nil_append]
      rw [hwj]
    · rintro ⟨M, nx2, a2, ap2⟩ hI2
      simp only at hI2 ⊢
      have hl3 := Scr.shut M.scr hI2.scr
      have hf3 := Scr.free M.scr hI2.scr
      have hI3 : M.Ok (N + 2 * (k + 1)) := hI2.up (by have := hR.2.2; omega)
      have ih3 := ih ⟨M, nx2, a2, ap2⟩ hI3
      refine Eq.trans ?_ ih3
      clear ih3 ih
      obtain ⟨most, scr, ps, p0, h0, p1, h1, p2, h2, p3, h3, o0, o1, o2, o3, lost⟩ := M
      simp only at hl3 hf3
      have hnl : ¬ (es.length : Int) < (es.length : Int) := by omega
      conv => lhs; simp only [MX.env, Mt.hpA, Mt.hpB, Mt.cl, u8L, List.cons_append, List.nil_append, Nat.reduceAdd]
      generalize hs1 : scr.enc = s at hl3 hf3
      (have fA := aI @hl3 (aI @hf3 (aI @hw (aI @za3 @za2))); refine gox ?_; clear fA)
      subst hs1
      refine zaa ?_ rfl rfl
      simp only [MX.env]
      rw [hw]
  · rintro ⟨M, nx2, a2, ap2⟩ hI2
    simp only at hI2 ⊢
    have hl3 := Scr.shut M.scr hI2.scr
    have hf3 := Scr.free M.scr hI2.scr
    have hnl : ¬ (bs.length : Int) < (bs.length : Int) := by omega
    rw [show reads2 hs an M [] = M from rfl]
    obtain ⟨most, scr, ps, p0, h0, p1, h1, p2, h2, p3, h3, o0, o1, o2, o3, lost⟩ := M
    simp only at hl3 hf3
    simp only [MX.env, Mt.hpA, Mt.hpB, Mt.cl, Mt.outA, Mt.cells, Mt.rest, u8L, List.cons_append, List.nil_append, Nat.reduceAdd]
    generalize scr.enc = s at hl3 hf3 ⊢
    (have fA := aI @hl3 @hf3; refine gox ?_; clear fA)
    (have fA := aI @hl3 @hf3; refine finhx ?_; clear fA; try with_reducible rfl)
    all_goals first | rfl
end
section
attribute [local simp] Ev.flen Ev.rd Ev.enc Slot.flen Slot.rd Slot.pute Slot.zero Slot.enc Cell.flen Cell.rd Cell.put Cell.pute Cell.zero Cell.enc
theorem zgi (hs an : Bool) : ∀ (bs : List Int) {m : Mt} {n : Nat}, m.Ok n → (∀ x ∈ bs, 0 ≤ x ∧ x < 256) → (reads2 hs an m bs).Ok (n + 2 * bs.length)
 | [], _, _, h, _ => h
 | x :: bs, m, n, h, hr => by
  have h1 := hr x (List.mem_cons_self ..)
  have := zgi hs an bs (read2_ok h hs an h1.1 h1.2) fun y hy => hr y (List.mem_cons_of_mem _ hy)
  exact this.up (by simp only [List.length_cons]; omega)
theorem t_reads2 (tag : Nat) (m : Mt) (N : Nat) (hN : N < 100000) (hm : m.Ok N) (bs : List Int) (hb' : bs.length < 1000) (hr : ∀ x ∈ bs, 0 ≤ x ∧ x < 256) (hs an : Bool) :
  callH L T 90 tag [.ref 0 (tag, 0) 0, .int .i64 2, .msl 2 (tag, 0) 1 0 bs.length, .bool hs, .bool an] (hb 0 (m.cells 1000000 tag) :: hb 2 (u8L bs) :: m.rest 1000000) = some (.tup [], hb 0 ((reads2 hs an m bs).cells 1000000 tag) :: hb 2 (u8L bs) :: (reads2 hs an m bs).rest 1000000) := by
 have l1 := Scr.shut m.scr hm.scr
 have f1 := Scr.free m.scr hm.scr
 have cA := t_All_28 (tag + 1) (m.pre tag 1000000 (tag, 0)) (m.post tag 1000000 (tag, 0)) rfl (m.pre_free _ _ _) (m.post_free _ _ _) m.p2 m.h2 bs hb'
 have cQ := t_All1 (tag + 1) m N hN hm bs hb' hr hs an
 have hok2 := zgi hs an bs hm hr
 have l2 := Scr.shut _ hok2.scr
 have f2 := Scr.free _ hok2.scr
 generalize reads2 hs an m bs = M2 at cQ l2 f2 ⊢
 clear hok2
 obtain ⟨most, scr, ps, p0, h0, p1, h1, p2, h2, p3, h3, o0, o1, o2, o3, lost⟩ := m
 obtain ⟨most2, scr2, ps2, p02, h02, p12, h12, p22, h22, p32, h32, o02, o12, o22, o32, lost2⟩ := M2
 simp only [Mt.pre, Mt.post, u8L, List.cons_append, List.nil_append, Nat.reduceAdd] at cA
 simp only [Mt.outA, Mt.rest, Mt.cells, u8L, Nat.reduceAdd] at cQ ⊢
 simp only at l1 f1 l2 f2
 generalize scr.enc = s at l1 f1 cQ ⊢
 generalize scr2.enc = s2 at l2 f2 cQ ⊢
 refine (za8 (show T (90 + 1000000000) = some (.hcode a90) from rfl) rfl (by simp only [argEnv, Nat.reduceAdd]; apply Eq.refl) (by simp only [hb, hHeap]; apply Eq.refl)).trans ?_
 have e28 : 0 + 24 + Int.toNat 2 * 2 = 28 := rfl
 (have fA := aI @l1 (aI @f1 @e28); have c1 := cA; refine gox ?_; clear fA c1)
 refine Eq.trans (ex_range (d := 19) (cells := [.ref 0 (tag, 0) 0, .ref 5 (tag, 1) 0, .ref 6 (tag, 1 + 1) 0, .ref 8 (tag, 1 + 1 + 1) 0, .ref 9 (tag, 1 + 1 + 1 + 1) 0]) (by intro κ'; apply Eq.refl) (by apply Eq.refl) (by apply Eq.refl) (by refine ⟨?_, ?_, ?_, ?_⟩ <;> apply Eq.refl) (by apply Eq.refl) (by apply Eq.refl) (by apply Eq.refl) (by apply Eq.refl)) ?_
 (have fA := aI @l1 (aI @f1 (aI @l2 @f2)); have c1 := cQ; refine hgx ?_; clear fA c1)
 (have fA := aI @l1 (aI @f1 (aI @l2 @f2)); refine gox ?_; clear fA)
 (have fA := aI @l1 (aI @f1 (aI @l2 @f2)); refine finhx ?_; clear fA; try with_reducible rfl)
 all_goals first | rfl
end
section
attribute [local simp] Ev.flen Ev.rd Ev.enc Slot.flen Slot.rd Slot.pute Slot.zero Slot.enc Cell.flen Cell.rd Cell.put Cell.pute Cell.zero Cell.enc
def Mt.hpR (k : Nat) (m : Mt) (g : Nat × Nat) : List (Nat × Blk) :=
 [(k + 1, ⟨g, m.scr.enc⟩), (k + 24, ⟨g, u8L m.p0⟩), (k + 26, ⟨g, u8L m.p1⟩), (k + 28, ⟨g, u8L m.p2⟩), (k + 30, ⟨g, u8L m.p3⟩), (k + 32, ⟨g, u8L m.o0⟩), (k + 33, ⟨g, u8L m.o1⟩), (k + 34, ⟨g, u8L m.o2⟩), (k + 35, ⟨g, u8L m.o3⟩)]
def sendTo (fr : Int) (b : List Int) (m : Mt) (to : Int) : Mt := if hears m.ps.m to fr = true then ansm m to b else m
def comes2 (m : Mt) (b : Int) : Mt := reads2 (hears m.ps.m 0 2) true ([2, 3].foldl (sendTo 2 [b]) m) [b]
theorem zc1 {m : Mt} {n : Nat} (h : m.Ok n) (fr : Int) (b : List Int) (to : Int) : (sendTo fr b m to).Ok (n + 1) := by
 unfold sendTo ansm
 split
 ·split
  ·exact put2_ok h b
  ·split
   ·exact put3_ok h b
   ·exact h.up (by omega)
 ·exact h.up (by omega)
theorem zbt {m : Mt} {n : Nat} (h : m.Ok n) {b : Int} (h0 : 0 ≤ b) (h1 : b < 256) : (comes2 m b).Ok (n + 4) := by
 have h2 := zc1 (zc1 h 2 [b] 2) 2 [b] 3
 exact (zgi (hears m.ps.m 0 2) true [b] h2 (by intro x hx; rw [List.mem_singleton] at hx; subst hx; exact ⟨h0, h1⟩)).up (by simp only [List.length_singleton]; omega)
theorem two_rep : setR (setR (List.map (AV.int IntKind.i64) (List.replicate 2 0)) 0 [AV.int IntKind.i64 2]) 1 [AV.int IntKind.i64 3] = [AV.int .i64 2, AV.int .i64 3] := rfl
structure MY where
 m : Mt
 nx : Nat
 a : Nat
theorem put2_scr (m : Mt) (b : List Int) : (put2 m b).scr = m.scr := by unfold put2; split <;> (try split) <;> rfl
theorem put3_scr (m : Mt) (b : List Int) : (put3 m b).scr = m.scr := by unfold put3; split <;> (try split) <;> rfl
theorem t_comes2 (tag : Nat) (m : Mt) (N : Nat) (hN : N < 90000) (hm : m.Ok N) (b : Int) (hb0 : 0 ≤ b) (hb1 : b < 256) :
  callH L T 78 tag [.ref 0 (tag, 0) 0, .int .i64 2, .int .u8 b] (hb 0 (m.cells 1000000 tag) :: m.rest 1000000) = some (.tup [], hb 0 ((comes2 m b).cells 1000000 tag) :: (comes2 m b).rest 1000000) := by
 have l1 := Scr.shut m.scr hm.scr
 have f1 := Scr.free m.scr hm.scr
 have th := fun t (p : Nat → Bool) (q : Int) => zb9 t (lst p) rfl q 2
 simp only [zgh] at th
 simp only [lst, List.map_cons, List.map_nil] at th
 unfold comes2
 generalize hH : hears m.ps.m 0 2 = H
 have th0 := fun t => th t m.ps.m 0
 rw [hH] at th0
 conv => lhs; simp only [Mt.rest, Mt.cells, u8L, Nat.reduceAdd]
 refine (za8 (show T (78 + 1000000000) = some (.hcode a78) from rfl) rfl (by simp only [argEnv, Nat.reduceAdd]; apply Eq.refl) (by simp only [hb, hHeap]; apply Eq.refl)).trans ?_
 (have fA := aI @l1 (aI @f1 @two_rep); have c1 := fun x1 => th0 x1; refine gox ?_; clear fA c1)
 refine Eq.trans (zds (α := Int) (X := MY) (fun k x => x.m.Ok (N + k)) (fun k x => ⟨[(0, .ref 0 (tag, 0) 0), (1, .int .i64 2), (2, .int .u8 b), (6, .bool H), (15, .msl 15 (tag, 1) 1 0 2), (16, .int .i64 2), (17, .int .i64 (k : Nat))], (0, ⟨(tag, 0), x.m.cl 1000000 (tag, x.a) (tag, x.a)⟩) :: (15, ⟨(tag, 1), [.int .i64 2, .int .i64 3]⟩) :: x.m.hpR 1000000 (tag, x.a), x.nx, tag⟩) [2, 3]
  (fun l x => some (.tup [], hb 0 ((reads2 H true (l.foldl (sendTo 2 [b]) x.m) [b]).cells 1000000 tag) :: (reads2 H true (l.foldl (sendTo 2 [b]) x.m) [b]).rest 1000000)) ?_ ?_ ⟨m, 2, 0⟩ hm) rfl
 ·rintro k ⟨M, nx, a⟩ hk hI ih
  simp only at hI ih ⊢
  have hl3 := Scr.shut M.scr hI.scr
  have hf3 := Scr.free M.scr hI.scr
  have hk2 : k = 0 ∨ k = 1 := by simp only [List.length_cons, List.length_nil] at hk; omega
  rcases hk2 with rfl | rfl
  ·have th2 := fun t => th t M.ps.m 2
   cases hq : hears M.ps.m 2 2 with
   | true =>
    have e : sendTo 2 [b] M 2 = put2 M [b] := by unfold sendTo; rw [if_pos hq]; rfl
    have ih3 := ih ⟨sendTo 2 [b] M 2, nx + 1 + 1, nx + 1⟩ (zc1 hI 2 [b] 2)
    refine Eq.trans ?_ ih3
    clear ih3 ih
    rw [hq] at th2
    rw [e]
    have cS := t_send2 (tag + 1) M hI.scr [b] ⟨hI.m0, hI.m1⟩ (by simp) (by have := hI.o2; omega) ⟨hI.l0, by have := hI.l1; omega⟩
    have hsc := put2_scr M [b]
    generalize put2 M [b] = M2 at cS hsc ⊢
    obtain ⟨most, scr, ps, p0, h0, p1, h1, p2, h2, p3, h3, o0, o1, o2, o3, lost⟩ := M
    obtain ⟨most2, scr2, ps2, p02, h02, p12, h12, p22, h22, p32, h32, o02, o12, o22, o32, lost2⟩ := M2
    simp only at hl3 hf3 hsc
    subst hsc
    simp only [Mt.cells, Mt.rest, u8L, List.map_cons, List.map_nil, List.length_singleton, Nat.reduceAdd] at cS
    conv => lhs; simp only [Mt.cl, Mt.hpR, u8L, Nat.reduceAdd]
    generalize hs1 : scr2.enc = s at hl3 hf3 cS
    (have fA := aI @hl3 (aI @hf3 @za1); have c1 := fun x1 => th2 x1; have c2 := cS; refine gox ?_; clear fA c1 c2)
    subst hs1
    exact zaa rfl rfl rfl
   | false =>
    have e : sendTo 2 [b] M 2 = M := by unfold sendTo; rw [if_neg (by simp [hq])]
    have ih3 := ih ⟨sendTo 2 [b] M 2, nx, a⟩ (zc1 hI 2 [b] 2)
    refine Eq.trans ?_ ih3
    clear ih3 ih
    rw [hq] at th2
    rw [e]
    obtain ⟨most, scr, ps, p0, h0, p1, h1, p2, h2, p3, h3, o0, o1, o2, o3, lost⟩ := M
    simp only at hl3 hf3
    conv => lhs; simp only [Mt.cl, Mt.hpR, u8L, Nat.reduceAdd]
    generalize hs1 : scr.enc = s at hl3 hf3
    (have fA := aI @hl3 (aI @hf3 @za1); have c1 := fun x1 => th2 x1; refine gox ?_; clear fA c1)
    subst hs1
    exact zaa rfl rfl rfl
  ·have th2 := fun t => th t M.ps.m 3
   cases hq : hears M.ps.m 3 2 with
   | true =>
    have e : sendTo 2 [b] M 3 = put3 M [b] := by unfold sendTo; rw [if_pos hq]; rfl
    have ih3 := ih ⟨sendTo 2 [b] M 3, nx + 1 + 1, nx + 1⟩ (zc1 hI 2 [b] 3)
    refine Eq.trans ?_ ih3
    clear ih3 ih
    rw [hq] at th2
    rw [e]
    have cS := t_send3 (tag + 1) M hI.scr [b] ⟨hI.m0, hI.m1⟩ (by simp) (by have := hI.o3; omega) ⟨hI.l0, by have := hI.l1; omega⟩
    have hsc := put3_scr M [b]
    generalize put3 M [b] = M2 at cS hsc ⊢
    obtain ⟨most, scr, ps, p0, h0, p1, h1, p2, h2, p3, h3, o0, o1, o2, o3, lost⟩ := M
    obtain ⟨most2, scr2, ps2, p02, h02, p12, h12, p22, h22, p32, h32, o02, o12, o22, o32, lost2⟩ := M2
    simp only at hl3 hf3 hsc
    subst hsc
    simp only [Mt.cells, Mt.rest, u8L, List.map_cons, List.map_nil, List.length_singleton, Nat.reduceAdd] at cS
    conv => lhs; simp only [Mt.cl, Mt.hpR, u8L, Nat.reduceAdd]
    generalize hs1 : scr2.enc = s at hl3 hf3 cS
    (have fA := aI @hl3 (aI @hf3 @za1); have c1 := fun x1 => th2 x1; have c2 := cS; refine gox ?_; clear fA c1 c2)
    subst hs1
    exact zaa rfl rfl rfl
   | false =>
    have e : sendTo 2 [b] M 3 = M := by unfold sendTo; rw [if_neg (by simp [hq])]
    have ih3 := ih ⟨sendTo 2 [b] M 3, nx, a⟩ (zc1 hI 2 [b] 3)
    refine Eq.trans ?_ ih3
    clear ih3 ih
    rw [hq] at th2
    rw [e]
    obtain ⟨most, scr, ps, p0, h0, p1, h1, p2, h2, p3, h3, o0, o1, o2, o3, lost⟩ := M
    simp only at hl3 hf3
    conv => lhs; simp only [Mt.cl, Mt.hpR, u8L, Nat.reduceAdd]
    generalize hs1 : scr.enc = s at hl3 hf3
    (have fA := aI @hl3 (aI @hf3 @za1); have c1 := fun x1 => th2 x1; refine gox ?_; clear fA c1)
    subst hs1
    exact zaa rfl rfl rfl
 ·rintro ⟨M, nx, a⟩ hI
  simp only [List.length_cons, List.length_nil, List.foldl_nil] at hI ⊢
  have hbl : ∀ x ∈ [b], 0 ≤ x ∧ x < 256 := by intro x hx; rw [List.mem_singleton] at hx; subst hx; exact ⟨hb0, hb1⟩
  have hl3 := Scr.shut M.scr hI.scr
  have hf3 := Scr.free M.scr hI.scr
  have cR := t_reads2 (tag + 1) M (N + 2) (by omega) hI [b] (by simp) hbl H true
  have hok := zgi H true [b] hI hbl
  have hl4 := Scr.shut _ hok.scr
  have hf4 := Scr.free _ hok.scr
  generalize reads2 H true M [b] = M2 at cR hl4 hf4 ⊢
  clear hok
  obtain ⟨most, scr, ps, p0, h0, p1, h1, p2, h2, p3, h3, o0, o1, o2, o3, lost⟩ := M
  obtain ⟨most2, scr2, ps2, p02, h02, p12, h12, p22, h22, p32, h32, o02, o12, o22, o32, lost2⟩ := M2
  simp only at hl3 hf3 hl4 hf4
  simp only [Mt.cells, Mt.rest, u8L, List.map_cons, List.map_nil, List.length_singleton, Nat.reduceAdd] at cR
  simp only [Mt.cells, Mt.rest, Mt.cl, Mt.hpR, u8L, Nat.reduceAdd]
  generalize scr.enc = s at hl3 hf3 cR ⊢
  generalize scr2.enc = s2 at hl4 hf4 cR ⊢
  (have fA := aI @hl3 (aI @hf3 (aI @hl4 (aI @hf4 @za1))); have c1 := cR; refine gox ?_; clear fA c1)
  (have fA := aI @hl3 (aI @hf3 (aI @hl4 @hf4)); refine finhx ?_; clear fA; try with_reducible rfl)
  all_goals first | rfl
end
section
attribute [local simp] Slot.flen Slot.rd Slot.pute Slot.zero Slot.enc Cell.flen Cell.rd Cell.put Cell.pute Cell.zero Cell.enc
theorem t_sStateV (tag : Nat) (s : Scr) (hs : s.Ok) : callω L T 83 tag [.ipt s.enc] [none] = some (.agg (s.enc.take 14), [none]) := by
  obtain ⟨row, col, fg, bg, flash, inv, under, conc, tall, wide, cursor, roll, masks, bells, sl, waits, row0, col0, wr⟩ := s
  obtain ⟨hsl, hr0, hr1, hc0, hc1, hq0, hq1, hd0, hd1⟩ := hs
  simp only at hsl hr0 hr1 hc0 hc1 hq0 hq1 hd0 hd1
  have hF := slF hsl
  have hP := Slot.pl sl
  simp only [Scr.enc]
  rw [za5 (show T 83 = some (.code a83) from rfl) rfl rfl]
  (have fA := aI @hF @hP; refine gox ?_; clear fA)
  (have fA := aI @hF @hP; refine finx ?_; clear fA; try with_reducible rfl)
  all_goals first | rfl
theorem t_sGridV (tag : Nat) (s : Scr) (hs : s.Ok) : callω L T 79 tag [.ipt s.enc] [none] = some (.agg (flat Cell.enc (gridL s)), [none]) := by
  have hR : ∀ k, (rowc s k).length = 40 := fun k => zf0 ..
  have cR := fun t k (h : ((s.sl.drop (k * 40)).take 40).length = 40) => t_zone_Row t _ h s.masks
  have hC : ∀ k, rowc s k = zrow ((s.sl.drop (k * 40)).take 40) s.masks := fun k => rfl
  unfold gridL
  generalize rowc s = f at hR hC ⊢
  obtain ⟨row, col, fg, bg, flash, inv, under, conc, tall, wide, cursor, roll, masks, bells, sl, waits, row0, col0, wr⟩ := s
  obtain ⟨hsl, hr0, hr1, hc0, hc1, hq0, hq1, hd0, hd1⟩ := hs
  simp only at hsl hr0 hr1 hc0 hc1 hq0 hq1 hd0 hd1 cR hC
  simp only [← hC] at cR
  have hF := slF hsl
  have hP := Slot.pl sl
  have hF1 := hF.1
  simp only [Scr.enc]
  have z : repl 25 (repl 40 [AV.int IntKind.i64 0, AV.int IntKind.i64 0, AV.int IntKind.i64 0, AV.bool false, AV.bool false, AV.bool false, AV.bool false, AV.bool false, AV.int IntKind.i64 0, AV.int IntKind.i64 0]) = flat Cell.enc (gridF f 0) := by
    rw [zgo]; exact Cell.zero 1000
  rw [za5 (show T 79 = some (.code a79) from rfl) rfl rfl]
  (have fA := aI @hF (aI @hP @z); refine gox ?_; clear fA)
  refine zcr (fun k nx => ⟨[(0, .ipt (.int .i64 row :: .int .i64 col :: .int .i64 fg :: .int .i64 bg :: .bool flash :: .bool inv :: .bool under :: .bool conc :: .bool tall :: .bool wide :: .bool cursor :: .bool roll :: .bool masks :: .int .i64 bells :: (flat Slot.enc sl ++ [.bool waits, .int .i64 row0, .int .i64 col0, .int .i64 wr.kind, .int .i64 wr.a, .int .i64 wr.b, .int .i64 wr.c, .int .i64 wr.d, .int .i64 wr.set, .int .i64 wr.code]))), (2, .ref 2 (tag, 1) 0), (3, .ref 3 (tag, 2) 0), (5, .int .i64 (k : Nat))], [(2, ⟨(tag, 1), flat Cell.enc (gridF f 0)⟩), (3, ⟨(tag, 2), flat Cell.enc (gridF f k)⟩)], nx, tag⟩) 25 _ ?_ ?_ 0 _ (by omega)
  · intro k nx hk
    have hw : IntKind.i64.wrap ((k : Int) + 1) = ((k + 1 : Nat) : Int) := zah hk (by omega)
    have b2 : (k : Int) < 25 := by omega
    have hx : ((sl.drop (k * 40)).take 40).length = 40 := by simp; omega
    have hrow : ∀ T : List AV, ((flat Slot.enc sl ++ T).drop (k * 400)).take 400 = flat Slot.enc ((sl.drop (k * 40)).take 40) := fun T => by
      have e1 := zgx (sl := sl) (k * 40)
      have e2 := ziv (sl := sl.drop (k * 40)) 40
      rw [show k * 400 = k * 40 * 10 from by omega, List.drop_append_of_le_length (by omega), e1, List.take_append_of_le_length (by rw [Slot.flen, List.length_drop, hsl]; omega), e2]
    have hl : ∀ T : List AV, 14 + k * 400 + 400 ≤ (flat Slot.enc sl ++ T).length + 14 := fun T => by rw [List.length_append, hF1]; omega
    have hg := gridF_set hR hk
    have hgl : (flat Cell.enc (gridF f k)).length = 10000 := by rw [Cell.flen, ziz hR (by omega)]
    have hfl : (flat Cell.enc (f k)).length = 400 := by rw [Cell.flen, hR]
    have cR := fun t => cR t k hx
    generalize (sl.drop (k * 40)).take 40 = rw0 at hrow cR
    refine ⟨nx, ?_⟩
    (have fA := aI @hF (aI @hP (aI @hw (aI @hF1 (aI @hrow (aI @hg (aI @d14 (aI @hl (aI @hgl @hfl)))))))); have c1 := fun x1 => cR x1; refine gox ?_; clear fA c1)
    refine zaa ?_ ?_ rfl
    · rw [hw]
    · rfl
  · intro nx
    have e : gridF f 25 = gridP f 25 := by simp [gridF]
    have hgl : (flat Cell.enc (gridF f 25)).length = 10000 := by rw [Cell.flen, ziz hR (by omega)]
    have hg0 : (flat Cell.enc (gridF f 0)).length = 10000 := by rw [Cell.flen, ziz hR (by omega)]
    rw [e] at hgl ⊢
    generalize gridP f 25 = G at hgl ⊢
    generalize gridF f 0 = G0 at hg0 ⊢
    have hs : setR (flat Cell.enc G0) 0 (flat Cell.enc G) = flat Cell.enc G := zbn (by omega)
    have tk : (flat Cell.enc G).take 10000 = flat Cell.enc G := List.take_of_length_le (by omega)
    have hpl := Cell.pl G
    (have fA := aI @hF (aI @hP (aI @hs (aI @tk (aI @hgl @hg0)))); refine gox ?_; clear fA)
    (have fA := aI @hF (aI @hP (aI @tk (aI @hgl @hpl))); refine finx ?_; clear fA; try with_reducible rfl)
    all_goals first | rfl
def Mt.vw (m : Mt) : List AV :=
  [.int .i64 m.most, .ipt m.scr.enc, .bool (m.ps.m 0), .bool (m.ps.m 1), .bool (m.ps.m 2), .bool (m.ps.m 3), .bool (m.ps.m 4), .bool (m.ps.m 5), .bool (m.ps.m 6), .bool (m.ps.m 7), .bool (m.ps.m 8), .bool (m.ps.m 9), .bool (m.ps.m 10), .bool (m.ps.m 11), .bool (m.ps.m 12), .bool (m.ps.m 13), .bool (m.ps.m 14), .bool (m.ps.m 15), .bool m.ps.roll, .bool m.ps.lower, .bool m.ps.ext, .bool m.ps.c0, .int .u8 m.ps.speed, .bool m.ps.echo,
   .isl 1 m.p0.length (u8L m.p0), .int .i64 m.h0, .isl 1 m.p1.length (u8L m.p1), .int .i64 m.h1, .isl 1 m.p2.length (u8L m.p2), .int .i64 m.h2, .isl 1 m.p3.length (u8L m.p3), .int .i64 m.h3,
   .isl 1 m.o0.length (u8L m.o0), .isl 1 m.o1.length (u8L m.o1), .isl 1 m.o2.length (u8L m.o2), .isl 1 m.o3.length (u8L m.o3), .int .i64 m.lost]
theorem zg7 (tag : Nat) (m : Mt) (hs : m.scr.Ok) : callω L T 34 tag [.ipt m.vw] [none] = some (.tup [.agg (m.scr.enc.take 14), .agg m.ps.enc], [none]) := by
  have cS := fun t => t_sStateV t m.scr hs
  have tl : (m.scr.enc.take 14).length = 14 := by rw [List.length_take, zam hs]; rfl
  have tk : List.take 14 (m.scr.enc.take 14) = m.scr.enc.take 14 := List.take_of_length_le (by omega)
  have st : ∀ z, z.length = 14 → setR z 0 (m.scr.enc.take 14) = m.scr.enc.take 14 := fun z hz => zbn (by omega)
  have hp : (m.scr.enc.take 14).all AV.plain = true := List.all_eq_true.mpr fun x hx => List.all_eq_true.mp (enc_pl hs) x (List.mem_of_mem_take hx)
  simp only [Mt.vw, PS.enc]
  generalize m.scr.enc = s at cS tl tk st hp ⊢
  generalize s.take 14 = s1 at cS tl tk st hp ⊢
  have st0 : setR [AV.int IntKind.i64 0, AV.int IntKind.i64 0, AV.int IntKind.i64 0, AV.int IntKind.i64 0, AV.bool false, AV.bool false, AV.bool false, AV.bool false, AV.bool false, AV.bool false, AV.bool false, AV.bool false, AV.bool false, AV.int IntKind.i64 0] 0 s1 = s1 := st _ rfl
  have st1 : setR (repl 4 [AV.bool false, AV.bool false, AV.bool false, AV.bool false] ++ [AV.bool false] ++ [AV.bool false] ++ [AV.bool false] ++ [AV.bool false] ++ [AV.int IntKind.u8 0] ++ [AV.bool false]) 0 [AV.bool (m.ps.m 0), AV.bool (m.ps.m 1), AV.bool (m.ps.m 2), AV.bool (m.ps.m 3), AV.bool (m.ps.m 4), AV.bool (m.ps.m 5), AV.bool (m.ps.m 6), AV.bool (m.ps.m 7), AV.bool (m.ps.m 8), AV.bool (m.ps.m 9), AV.bool (m.ps.m 10), AV.bool (m.ps.m 11), AV.bool (m.ps.m 12), AV.bool (m.ps.m 13), AV.bool (m.ps.m 14), AV.bool (m.ps.m 15), AV.bool m.ps.roll, AV.bool m.ps.lower, AV.bool m.ps.ext, AV.bool m.ps.c0, AV.int IntKind.u8 m.ps.speed, AV.bool m.ps.echo] = [AV.bool (m.ps.m 0), AV.bool (m.ps.m 1), AV.bool (m.ps.m 2), AV.bool (m.ps.m 3), AV.bool (m.ps.m 4), AV.bool (m.ps.m 5), AV.bool (m.ps.m 6), AV.bool (m.ps.m 7), AV.bool (m.ps.m 8), AV.bool (m.ps.m 9), AV.bool (m.ps.m 10), AV.bool (m.ps.m 11), AV.bool (m.ps.m 12), AV.bool (m.ps.m 13), AV.bool (m.ps.m 14), AV.bool (m.ps.m 15), AV.bool m.ps.roll, AV.bool m.ps.lower, AV.bool m.ps.ext, AV.bool m.ps.c0, AV.int IntKind.u8 m.ps.speed, AV.bool m.ps.echo] := rfl
  rw [za5 (show T 34 = some (.code a34) from rfl) rfl rfl]
  (have fA := aI @tl (aI @tk (aI @st0 @st1)); have c1 := fun x1 => cS x1; refine gox ?_; clear fA c1)
  (have fA := aI @tl (aI @tk (aI @st0 (aI @st1 @hp))); refine finx ?_; clear fA; try with_reducible rfl)
  all_goals first | rfl
theorem zj1 (tag : Nat) (m : Mt) (hs : m.scr.Ok) : callω L T 32 tag [.ipt m.vw] [none] = some (.agg (flat Cell.enc (gridL m.scr)), [none]) := by
  have cS := fun t => t_sGridV t m.scr hs
  have hl : (flat Cell.enc (gridL m.scr)).length = 10000 := by rw [Cell.flen, show (gridL m.scr).length = 25 * 40 from zcf (fun k => zf0 ..) 25]
  have hp := Cell.pl (gridL m.scr)
  have tk : (flat Cell.enc (gridL m.scr)).take 10000 = flat Cell.enc (gridL m.scr) := List.take_of_length_le (by omega)
  have st : ∀ z : List AV, z.length = 10000 → setR z 0 (flat Cell.enc (gridL m.scr)) = flat Cell.enc (gridL m.scr) := fun z hz => zbn (by omega)
  have z : repl 25 (repl 40 [AV.int IntKind.i64 0, AV.int IntKind.i64 0, AV.int IntKind.i64 0, AV.bool false, AV.bool false, AV.bool false, AV.bool false, AV.bool false, AV.int IntKind.i64 0, AV.int IntKind.i64 0]) = flat Cell.enc (List.replicate 1000 Cell.none) := by
    rw [zgo]; exact Cell.zero 1000
  have zl : (flat Cell.enc (List.replicate 1000 Cell.none)).length = 10000 := by rw [Cell.flen, List.length_replicate]
  have st2 := st _ zl
  simp only [Mt.vw]
  generalize m.scr.enc = s at cS ⊢
  generalize flat Cell.enc (gridL m.scr) = G at cS hl hp tk st st2 ⊢
  generalize flat Cell.enc (List.replicate 1000 Cell.none) = Z at z zl st2
  rw [za5 (show T 32 = some (.code a32) from rfl) rfl rfl]
  (have fA := aI @hl (aI @tk (aI @st2 (aI @z @zl))); have c1 := fun x1 => cS x1; refine gox ?_; clear fA c1)
  (have fA := aI @hl (aI @tk @hp); refine finx ?_; clear fA; try with_reducible rfl)
  all_goals first | rfl
theorem zj5 (tag : Nat) (m : Mt) (h : m.o2.length < 5000) : callω L T 35 tag [.ipt m.vw, .int .i64 2] [none, none] = some (.fsl 1 m.o2.length (u8L m.o2), [none, none]) := by
  have cB := fun t => zla t m.o2 (by omega)
  have e34 : 32 + Int.toNat 2 = 34 := rfl
  simp only [Mt.vw, u8L]
  rw [za5 (show T 35 = some (.code a35) from rfl) rfl rfl]
  (have fA := @e34; have c1 := fun x1 => cB x1; refine gox ?_; clear fA c1)
  (refine finx ?_; try with_reducible rfl)
  all_goals first | rfl
theorem zg2 (tag : Nat) (m : Mt) (N : Nat) (hN : N < 90000) (hm : m.Ok N) (b : Int) (hb0 : 0 ≤ b) (hb1 : b < 256) :
    callH L T 31 tag [.ref 0 (tag, 0) 0, .int .u8 b] (hb 0 (m.cells 1000000 tag) :: m.rest 1000000) = some (.tup [], hb 0 ((comes2 m b).cells 1000000 tag) :: (comes2 m b).rest 1000000) := by
  have cC := t_comes2 (tag + 1) m N hN hm b hb0 hb1
  have hl3 := Scr.shut m.scr hm.scr
  have hf3 := Scr.free m.scr hm.scr
  have hok := zbt hm hb0 hb1
  have hl4 := Scr.shut _ hok.scr
  have hf4 := Scr.free _ hok.scr
  generalize comes2 m b = M2 at cC hl4 hf4 ⊢
  clear hok
  simp only [Mt.cells, Mt.rest, u8L, Nat.reduceAdd] at cC ⊢
  generalize m.scr.enc = s at hl3 hf3 cC ⊢
  generalize M2.scr.enc = s2 at hl4 hf4 cC ⊢
  refine (za8 (show T (31 + 1000000000) = some (.hcode a31) from rfl) rfl (by simp only [argEnv, Nat.reduceAdd]; apply Eq.refl) (by simp only [hb, hHeap]; apply Eq.refl)).trans ?_
  (have fA := aI @hl3 (aI @hf3 (aI @hl4 @hf4)); have c1 := cC; refine gox ?_; clear fA c1)
  (have fA := aI @hl3 (aI @hf3 (aI @hl4 @hf4)); refine finhx ?_; clear fA; try with_reducible rfl)
  all_goals first | rfl
end
end Go.Proofs.YtbaenaalfpcaaaaGreatDoor
