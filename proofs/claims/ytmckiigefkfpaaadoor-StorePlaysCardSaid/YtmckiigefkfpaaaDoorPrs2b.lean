/- Functions of the seat, worked off from their code: chunk rs2b. Written by program (tools/mkp.py) from wip/fn. -/
import Derived.Test.YtmckiigefkfpaaaDoorSimT
import Derived.Test.YtmckiigefkfpaaaDoorSimY
import Derived.Test.YtmckiigefkfpaaaDoorPst0
import Derived.Test.YtmckiigefkfpaaaDoorPrs1
set_option maxRecDepth 100000
set_option maxHeartbeats 40000000
set_option linter.unusedSimpArgs false
set_option linter.unusedVariables false
namespace Go.Proofs.YtmckiigefkfpaaaDoor
open Go Go.Sim
attribute [local irreducible] chk brX hX finH keyX visit packed backPk backOk backHeap stays getAll getX strX setX takeX normX fillX lendX partsX opsX callK lentK lentR giveX adoptX resX joinX headX loopX seqK blkK regK finX exOps ex eqT
attribute [local simp] setR_int setR_bool setR_zero setR_succ repl_int repl_bool List.getElem?_cons_zero List.getElem?_cons_succ List.getElem?_nil w_i64 w_u64 w_u8 bAnd_u8 bOr_u8 bXor_u8 bAndNot_u8 bShl_u8 wrap_u8_range all_plain_int all_plain_bool all_plain_app pl_bool pl_int pl_str pl_nilp pl_nsl pl_nilI pl_nilF take_map_len AV.cells TI.isAgg
theorem find_ixN (k : Int) : ∀ (l : List (Int × ByteArray)) (j : Nat), ixF (fun p => decide (p.1 = k)) j l = -1 → l.find? (fun p => decide (p.1 = k)) = none
  | [], _, _ => rfl
  | x :: l, j, h => by
    rw [ixF] at h
    by_cases hx : decide (x.1 = k) = true
    · rw [if_pos hx] at h; omega
    · rw [if_neg hx] at h
      have hx' : decide (x.1 = k) = false := by simpa using hx
      have := find_ixN k l (j + 1) h
      simp only [List.find?_cons, hx', this]
theorem find_ixS (k : Int) : ∀ (l : List (Int × ByteArray)) (j : Nat), ixF (fun p => decide (p.1 = k)) j l ≠ -1 → ∃ i : Nat, ∃ h : i < l.length, ixF (fun p => decide (p.1 = k)) j l = ((j + i : Nat) : Int) ∧ l.find? (fun p => decide (p.1 = k)) = some l[i]
  | [], _, h => (h rfl).elim
  | x :: l, j, h => by
    rw [ixF] at h ⊢
    by_cases hx : decide (x.1 = k) = true
    · rw [if_pos hx]
      exact ⟨0, by simp, by simp, by simp only [List.find?_cons, hx]; rfl⟩
    · rw [if_neg hx] at h ⊢
      obtain ⟨i, h1, h2, h3⟩ := find_ixS k l (j + 1) h
      exact ⟨i + 1, by simpa using h1, by rw [h2]; congr 1; omega, by simp only [List.find?_cons, show decide (x.1 = k) = false from by simpa using hx, h3]; rfl⟩
theorem getN_r (tag : Nat) (most : Int) (pin : Int) (pinned : Bool) (k : Int) :
    callH L T 35 tag [.ref 0 (tag, 0) 0, .int .i64 k] [hb 0 [.int .i64 most, .nsl, .nsl, .bool pinned, .int .i64 pin]] = some (.tup [.str ByteArray.empty, .bool false], [hb 0 [.int .i64 most, .nsl, .nsl, .bool pinned, .int .i64 pin]]) := by
  refine (call_exh2 (show T (35 + 1000000000) = some (.hcode a35) from rfl) rfl (by simp only [argEnv, Nat.reduceAdd]; apply Eq.refl) (by simp only [hb, hHeap]; apply Eq.refl)).trans ?_
  (have c1 := fun x1 => findN_r x1 most pin pinned k; refine gox ?_; clear c1)
  (refine finhx ?_; try with_reducible rfl)
  try rfl
theorem get_r (tag : Nat) (most : Int) (l : List (Int × ByteArray)) (pin : Int) (pinned : Bool) (k : Int) (hn : l.length < 1000000) :
    callH L T 35 tag [.ref 0 (tag, 0) 0, .int .i64 k] [hb 0 [.int .i64 most, .msl 1000001 (tag, 0) 1 0 l.length, .msl 1000002 (tag, 0) 1 0 l.length, .bool pinned, .int .i64 pin], hb 1000001 (l.map fun p => .int .i64 p.1), hb 1000002 (l.map fun p => .str p.2)] =
     some (match l.find? fun p => decide (p.1 = k) with | some p => .tup [.str p.2, .bool true] | none => .tup [.str ByteArray.empty, .bool false], [hb 0 [.int .i64 most, .msl 1000001 (tag, 0) 1 0 l.length, .msl 1000002 (tag, 0) 1 0 l.length, .bool pinned, .int .i64 pin], hb 1000001 (l.map fun p => .int .i64 p.1), hb 1000002 (l.map fun p => .str p.2)]) := by
  refine (call_exh2 (show T (35 + 1000000000) = some (.hcode a35) from rfl) rfl (by simp only [argEnv, Nat.reduceAdd]; apply Eq.refl) (by simp only [hb, hHeap]; apply Eq.refl)).trans ?_
  by_cases hm : ixF (fun p : Int × ByteArray => decide (p.1 = k)) 0 l = -1
  · have hx' : ixF (fun p : Int × ByteArray => decide (p.1 = k)) 0 l < 0 := by rw [hm]; simp
    rw [find_ixN k l 0 hm]
    (have fA := And.intro @shut_ki @shut_vs; have c1 := fun x1 => find_r x1 most l pin pinned k hn; refine gox ?_; clear fA c1)
    (have fA := And.intro @shut_ki @shut_vs; refine finhx ?_; clear fA; try with_reducible rfl)
    try rfl
  · obtain ⟨i, hi, h1, h2⟩ := find_ixS k l 0 hm
    simp only [Nat.zero_add] at h1
    have fi := fun tag => find_r tag most l pin pinned k hn
    simp only [h1] at fi
    rw [h2]
    have hx : (l.map fun p => (.str p.2 : AV))[i]? = some (.str l[i].2) := by simp [hi]
    have hz : (i : Int) < (l.length : Int) := by omega
    (have fA := And.intro @hx (And.intro @shut_ki @shut_vs); have c1 := fun x1 => fi x1; refine gox ?_; clear fA c1)
    (have fA := And.intro @shut_ki @shut_vs; refine finhx ?_; clear fA; try with_reducible rfl)
    try rfl

end Go.Proofs.YtmckiigefkfpaaaDoor
