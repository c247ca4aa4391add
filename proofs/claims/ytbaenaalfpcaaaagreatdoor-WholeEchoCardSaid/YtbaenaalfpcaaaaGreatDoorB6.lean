/- Part of the proof: an interpreter of the model, proved sound, and what it makes of the functions. -/
import Derived.Test.YtbaenaalfpcaaaaGreatDoorA5
import Derived.Test.YtbaenaalfpcaaaaGreatDoorA4
import Derived.Test.YtbaenaalfpcaaaaGreatDoorB4
import Derived.Test.YtbaenaalfpcaaaaGreatDoorB1
set_option linter.unusedVariables false
set_option linter.unusedSimpArgs false
set_option linter.unnecessarySimpa false
set_option maxRecDepth 100000
set_option maxHeartbeats 40000000
namespace Go.Proofs.YtbaenaalfpcaaaaGreatDoor
open Go Go.Sim
attribute [local irreducible] chk brX hX finH keyX visit packed backPk backOk backHeap stays getAll getX strX setX takeX normX fillX lendX partsX opsX callK lentK lentR giveX adoptX resX joinX headX loopX seqK blkK regK finX exOps ex eqT finMX matAll
attribute [local simp] zc2 zbg zbd zau zbm zb6 List.getElem?_cons_zero List.getElem?_cons_succ List.getElem?_nil w_i64 w_u64 w_u8 zcu bOr_u8 zcv zb3 zd0 zaj zar zao zaq zcy pl_int pl_str zcz pl_nsl zd1 zcx zag AV.cells TI.isAgg
section
attribute [local simp] Ev.flen Ev.rd Ev.enc
theorem enc14 (s : Scr) : s.enc.take 14 = [.int .i64 s.row, .int .i64 s.col, .int .i64 s.fg, .int .i64 s.bg, .bool s.flash, .bool s.inv, .bool s.under, .bool s.conc, .bool s.tall, .bool s.wide, .bool s.cursor, .bool s.roll, .bool s.masks, .int .i64 s.bells] := rfl
def Near (m n : Mt) : Prop := ∃ o : List Int, n = { m with o3 := o } ∧ o.length = m.o3.length
theorem near_put2 {m n : Mt} (h : Near m n) (b : List Int) : Near (put2 m b) (put2 n b) := by
 obtain ⟨o, rfl, ho⟩ := h
 unfold put2
 by_cases q : b.length = 0
 ·simp only [if_pos q]; exact ⟨o, rfl, ho⟩
 ·simp only [if_neg q]
  by_cases q2 : (m.o2.length : Int) + b.length > m.most
  ·simp only [if_pos q2]; exact ⟨o, rfl, ho⟩
  ·simp only [if_neg q2]; exact ⟨o, rfl, ho⟩
theorem near_put3 {m n : Mt} (h : Near m n) {b c : List Int} (hb : b.length = c.length) : Near (put3 m b) (put3 n c) := by
 obtain ⟨o, rfl, ho⟩ := h
 unfold put3
 simp only [ho, ← hb]
 by_cases q : b.length = 0
 ·simp only [if_pos q]; exact ⟨o, rfl, ho⟩
 ·simp only [if_neg q]
  by_cases q2 : (m.o3.length : Int) + b.length > m.most
  ·simp only [if_pos q2]; exact ⟨o, rfl, ho⟩
  ·simp only [if_neg q2]; exact ⟨o ++ c, rfl, by simp [ho, hb]⟩
theorem near_rnd {m n : Mt} (h : Near m n) (hs an : Bool) (e : Ev) : Near (rnd 2 hs an m e) (rnd 2 hs an n e) := by
 obtain ⟨o, rfl, ho⟩ := h
 unfold rnd
 by_cases q : e.kind ≠ 10
 ·rw [if_pos q, if_pos q]
  cases hs with
  | true => exact ⟨o, rfl, ho⟩
  | false => exact ⟨o, rfl, ho⟩
 ·rw [if_neg q, if_neg q]
  have hn : Near { m with ps := (askF m.ps e).1, scr := { m.scr with roll := (askF m.ps e).1.roll } } { m with o3 := o, ps := (askF m.ps e).1, scr := { m.scr with roll := (askF m.ps e).1.roll } } := ⟨o, rfl, ho⟩
  cases an with
  | true => exact near_put2 hn (even (askF m.ps e).2)
  | false => exact hn
theorem zmz (hs an : Bool) : ∀ (es : List Ev) {m n : Mt}, Near m n → Near (es.foldl (rnd 2 hs an) m) (es.foldl (rnd 2 hs an) n)
 | [], _, _, h => h
 | e :: es, _, _, h => zmz hs an es (near_rnd h hs an e)
theorem lxB_of {b c : Int} (h : lxC b = lxC c) (p : List Int) (sh : Int) : lxB p sh b = lxB p sh c := by unfold lxB; rw [h]
theorem near_read {m n : Mt} (h : Near m n) (hs an : Bool) {b c : Int} (hb : lxC b = lxC c) : Near (reads2 hs an m [b]) (reads2 hs an n [c]) := by
 obtain ⟨o, rfl, ho⟩ := h
 show Near (read2 hs an m b) (read2 hs an _ c)
 unfold read2
 simp only [lxB_of hb]
 exact zmz hs an _ ⟨o, rfl, ho⟩
theorem near_comes {m n : Mt} (h : Near m n) (h0 : m.ps.m 10 = false) {b c : Int} (hb : lxC b = lxC c) : Near (comes2 m b) (comes2 n c) := by
 have hps : n.ps = m.ps := by obtain ⟨o, rfl, ho⟩ := h; rfl
 have e1 : ∀ x y, sendTo 2 [x] m y = if hears m.ps.m y 2 = true then ansm m y [x] else m := fun x y => rfl
 have f2 : hears m.ps.m 2 2 = false := by
  have : hears m.ps.m 2 2 = (true && true && m.ps.m 10) := rfl
  rw [this, h0]; rfl
 have s1 : sendTo 2 [b] m 2 = m := by unfold sendTo; rw [if_neg (by rw [f2]; decide)]
 have s2 : sendTo 2 [c] n 2 = n := by unfold sendTo; rw [hps, if_neg (by rw [f2]; decide)]
 unfold comes2
 simp only [List.foldl_cons, List.foldl_nil, s1, s2, hps]
 refine near_read ?_ _ true hb
 unfold sendTo
 rw [hps]
 split
 ·show Near (put3 m [b]) (put3 n [c])
  exact near_put3 h rfl
 ·exact h
theorem upd_self (m : Nat → Bool) (a b : Int) (on : Bool) (h : m 10 = false) : upd m a b on 10 = false := by
 unfold upd
 by_cases q : maySet a b = true ∧ 10 = a.toNat * 4 + b.toNat
 ·exfalso
  obtain ⟨q1, q2⟩ := q
  simp only [maySet, qO5, in4, decide_eq_true_eq, Bool.not_eq_true', decide_eq_false_iff_not] at q1
  omega
 ·rw [if_neg q]; exact h
theorem zi3 (s : PS) (e : Ev) (h : s.m 10 = false) : (askF s e).1.m 10 = false := by
 have h1 : (firstF s e.b).1.m 10 = false := by
  unfold firstF
  repeat' split
  all_goals first | exact h | rfl
 have h2 : (secondF s e.b e.c).1.m 10 = false := by
  unfold secondF
  simp only
  repeat' split
  all_goals exact h
 have h3 : (thirdF s e.b e.c e.d).1.m 10 = false := by
  unfold thirdF
  simp only
  repeat' split
  all_goals first | exact h | exact upd_self _ _ _ _ h
 unfold askF
 split
 ·unfold withEcho
  simp only
  split
  ·exact h1
  ·split
   ·exact h2
   ·split
    ·exact h3
    ·exact h
 ·exact h
theorem put2_ps (m : Mt) (b : List Int) : (put2 m b).ps = m.ps := by unfold put2; split <;> (try split) <;> rfl
theorem put3_ps (m : Mt) (b : List Int) : (put3 m b).ps = m.ps := by unfold put3; split <;> (try split) <;> rfl
theorem rnd_self (to : Int) (hs an : Bool) (m : Mt) (e : Ev) (h : m.ps.m 10 = false) : (rnd to hs an m e).ps.m 10 = false := by
 unfold rnd
 split
 ·split <;> exact h
 ·simp only
  split
  ·unfold ansm
   split
   ·rw [put2_ps]; exact zi3 _ _ h
   ·split
    ·rw [put3_ps]; exact zi3 _ _ h
    ·exact zi3 _ _ h
  ·exact zi3 _ _ h
theorem zmo (to : Int) (hs an : Bool) : ∀ (es : List Ev) (m : Mt), m.ps.m 10 = false → (es.foldl (rnd to hs an) m).ps.m 10 = false
 | [], _, h => h
 | e :: es, m, h => zmo to hs an es _ (rnd_self to hs an m e h)
theorem znk (fr : Int) (b : List Int) (m : Mt) (to : Int) : (sendTo fr b m to).ps = m.ps := by
 unfold sendTo ansm
 split
 ·split
  ·exact put2_ps ..
  ·split
   ·exact put3_ps ..
   ·rfl
 ·rfl
theorem comes_self (m : Mt) (b : Int) (h : m.ps.m 10 = false) : (comes2 m b).ps.m 10 = false := by
 unfold comes2
 show (read2 _ true _ b).ps.m 10 = false
 unfold read2
 refine zmo _ _ _ _ _ ?_
 show (sendTo 2 [b] (sendTo 2 [b] m 2) 3).ps.m 10 = false
 rw [znk, znk]
 exact h
theorem lxC_even {x : Int} (h0 : 0 ≤ x) (h1 : x < 256) : lxC (bXor .u8 (makeEvenI x) 128) = 26 := by
 have := zcs (p := fun x => decide (lxC (bXor .u8 (makeEvenI x) 128) = 26)) (by decide +kernel) h0 h1
 simpa using this
theorem lxC_26 : lxC (makeEvenI 26) = 26 := by decide +kernel
theorem zfd {x : Int} (h0 : 0 ≤ x) (h1 : x < 256) : 0 ≤ makeEvenI x ∧ makeEvenI x < 256 := by
 have := zcs (p := fun x => decide (0 ≤ makeEvenI x ∧ makeEvenI x < 256)) (by decide +kernel) h0 h1
 simpa using this
theorem xor_rng {x : Int} (h0 : 0 ≤ x) (h1 : x < 256) : 0 ≤ bXor .u8 (makeEvenI x) 128 ∧ bXor .u8 (makeEvenI x) 128 < 256 := by
 have := zcs (p := fun x => decide (0 ≤ bXor .u8 (makeEvenI x) 128 ∧ bXor .u8 (makeEvenI x) 128 < 256)) (by decide +kernel) h0 h1
 simpa using this
end
section
attribute [local simp] Ev.flen Ev.rd Ev.enc
theorem t_Number (tag : Nat) (n b : Int) (hb : 0 < b) (hb' : b < 1000000) : callω L T 50 tag [.int .i64 n, .int .i64 b] [none, none] = some (.int .i64 (n % b), [none, none]) := by
 have b0 : ¬ b = 0 := by omega
 have q1 := Int.emod_nonneg n b0
 have q2 := Int.emod_lt_of_pos n hb
 have q3 : n.tmod b = if 0 ≤ n ∨ b ∣ n then n % b else n % b - b := by
  rw [Int.tmod_eq_emod]
  have : (b.natAbs : Int) = b := by omega
  split <;> simp [this]
 rw [za5 (show T 50 = some (.code a50) from rfl) rfl rfl]
 by_cases q : n.tmod b < 0
 ·have e : n.tmod b + b = n % b := by split at q3 <;> omega
  have hw : IntKind.i64.wrap (n.tmod b + b) = n % b := by rw [w_i64 (by omega) (by omega), e]
  (have fA := @hw; refine gox ?_; clear fA)
  (have fA := @hw; refine finx ?_; clear fA; try with_reducible rfl)
  rw [hw]
 ·have e : n.tmod b = n % b := by split at q3 <;> omega
  (refine gox ?_)
  (refine finx ?_; try with_reducible rfl)
  rw [e]
theorem zga (tag : Nat) (n b : Int) (hb : 0 < b) (hb' : b < 1000000) : callω L T 15 tag [.int .i64 n, .int .i64 b] [none, none] = some (.int .i64 (n % b), [none, none]) := by
 rw [za5 (show T 15 = some (.code a15) from rfl) rfl rfl]
 (have c1 := fun x1 => t_Number x1 n b hb hb'; refine gox ?_; clear c1)
 (refine finx ?_; try with_reducible rfl)
 all_goals first | rfl
end
end Go.Proofs.YtbaenaalfpcaaaaGreatDoor
