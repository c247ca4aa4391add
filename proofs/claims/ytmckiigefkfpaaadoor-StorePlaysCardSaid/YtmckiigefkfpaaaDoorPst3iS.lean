/- Functions of the seat, worked off from their code: chunk st3iS. Written by program (tools/mkp.py) from wip/fn. -/
import Derived.Test.YtmckiigefkfpaaaDoorSimT
import Derived.Test.YtmckiigefkfpaaaDoorSimY
import Derived.Test.YtmckiigefkfpaaaDoorPst0
import Derived.Test.YtmckiigefkfpaaaDoorPst1i
import Derived.Test.YtmckiigefkfpaaaDoorPst2iS
set_option maxRecDepth 100000
set_option maxHeartbeats 40000000
set_option linter.unusedSimpArgs false
set_option linter.unusedVariables false
namespace Go.Proofs.YtmckiigefkfpaaaDoor
open Go Go.Sim
attribute [local irreducible] chk brX hX finH keyX visit packed backPk backOk backHeap stays getAll getX strX setX takeX normX fillX lendX partsX opsX callK lentK lentR giveX adoptX resX joinX headX loopX seqK blkK regK finX exOps ex eqT
attribute [local simp] setR_int setR_bool setR_zero setR_succ repl_int repl_bool List.getElem?_cons_zero List.getElem?_cons_succ List.getElem?_nil w_i64 w_u64 w_u8 bAnd_u8 bOr_u8 bXor_u8 bAndNot_u8 bShl_u8 wrap_u8_range all_plain_int all_plain_bool all_plain_app pl_bool pl_int pl_str pl_nilp pl_nsl pl_nilI pl_nilF take_map_len AV.cells TI.isAgg
theorem victim_iS (tag : Nat) (most : Int) (l : List (Int × ByteArray)) (pin : Int) (pinned : Bool) (sp : List AV) (k : Int) (hs : shutL sp = true) (hn : l.length ≤ 140737488355328) :
    callH L T 51 tag [.ref 0 (tag, 0) 0, .int .i64 k] [hb 0 [.int .i64 most, .mref 1500001 (tag, 0), .msl 1000002 (tag, 0) 1 0 l.length, .int .i64 pin, .bool pinned], hb 1500001 [.mapd (l.map fun p => .int .i64 p.1) (l.map fun p => .str p.2)], hb 1000002 (l.map (fun p => .int .i64 p.1) ++ sp)] = some (.int .i64 (vic k pin pinned l), [hb 0 [.int .i64 most, .mref 1500001 (tag, 0), .msl 1000002 (tag, 0) 1 0 l.length, .int .i64 pin, .bool pinned], hb 1500001 [.mapd (l.map fun p => .int .i64 p.1) (l.map fun p => .str p.2)], hb 1000002 (l.map (fun p => .int .i64 p.1) ++ sp)]) := by
  refine (call_exh2 (show T (51 + 1000000000) = some (.hcode a51) from rfl) rfl (by simp only [argEnv, Nat.reduceAdd]; apply Eq.refl) (by simp only [hb, hHeap]; apply Eq.refl)).trans ?_
  (have fA := And.intro @hs (And.intro @shut_ki @shut_vs); refine gox ?_; clear fA)
  refine Eq.trans (headX_at (fun j nx => ⟨[(0, .ref 0 (tag, 0) 0), (1, .int .i64 k), (10, .msl 1000002 (tag, 0) 1 0 l.length), (11, .int .i64 (l.length : Nat)), (12, .int .i64 (j : Nat))],
    [(0, ⟨(tag, 0), [.int .i64 most, .mref 1500001 (tag, 0), .msl 1000002 (tag, 0) 1 0 l.length, .int .i64 pin, .bool pinned]⟩), (1500001, ⟨(tag, 0), [.mapd (l.map fun p => .int .i64 p.1) (l.map fun p => .str p.2)]⟩), (1000002, ⟨(tag, 0), l.map (fun p => .int .i64 p.1) ++ sp⟩)], nx, tag⟩) l.length
    (fun j => some (.int .i64 (vic k pin pinned (l.drop j)), [hb 0 [.int .i64 most, .mref 1500001 (tag, 0), .msl 1000002 (tag, 0) 1 0 l.length, .int .i64 pin, .bool pinned], hb 1500001 [.mapd (l.map fun p => .int .i64 p.1) (l.map fun p => .str p.2)], hb 1000002 (l.map (fun p => .int .i64 p.1) ++ sp)])) ?_ ?_ 1) (by simp)
  · intro j nx hj ih
    have h1 : (l.map (fun p => .int .i64 p.1) ++ sp)[j]? = some (.int .i64 l[j].1) := map_at _ _ _ hj
    have hd := List.drop_eq_getElem_cons hj
    by_cases q1 : l[j].1 = k
    · have b1 : (!decide (l[j].1 = k)) = false := by rw [decide_eq_true q1]; rfl
      (have fA := @h1; refine gox ?_; clear fA)
      refine (head_eq (by rw [wrap_succ hj (by omega)]) rfl rfl).trans ((ih _).trans ?_)
      rw [hd, vic, if_neg (by simp [q1])]
    · have b1 : (!decide (l[j].1 = k)) = true := by rw [decide_eq_false q1]; rfl
      by_cases q2 : pinned = true
      · by_cases q3 : l[j].1 = pin
        · have b3 : (!decide (l[j].1 = pin)) = false := by rw [decide_eq_true q3]; rfl
          have b4 : decide (l[j].1 = pin) = true := by rw [decide_eq_true q3]
          (have fA := @h1; refine gox ?_; clear fA)
          refine (head_eq (by rw [wrap_succ hj (by omega)]) rfl rfl).trans ((ih _).trans ?_)
          rw [hd, vic, if_neg (by simp [q2, q3])]
        · have b3 : (!decide (l[j].1 = pin)) = true := by rw [decide_eq_false q3]; rfl
          have b4 : decide (l[j].1 = pin) = false := by rw [decide_eq_false q3]
          (have fA := @h1; refine gox ?_; clear fA)
          (have fA := And.intro @hs (And.intro @shut_ki @shut_vs); refine finhx ?_; clear fA; try with_reducible rfl)
          rw [hd, vic, if_pos (by simp [q1, q2, q3])]
      · have q2 : pinned = false := by simpa using q2
        have b5 : (!pinned) = true := by rw [q2]; rfl
        (have fA := @h1; refine gox ?_; clear fA)
        (have fA := And.intro @hs (And.intro @shut_ki @shut_vs); refine finhx ?_; clear fA; try with_reducible rfl)
        rw [hd, vic, if_pos (by simp [q1, q2])]
  · intro nx
    (have fA := @hs; refine gox ?_; clear fA)
    (have fA := And.intro @hs (And.intro @shut_ki @shut_vs); refine finhx ?_; clear fA; try with_reducible rfl)
    rw [List.drop_length]; rfl
theorem get_iS (tag : Nat) (most : Int) (l : List (Int × ByteArray)) (pin : Int) (pinned : Bool) (sp : List AV) (k : Int) (hs : shutL sp = true) (hn : l.length ≤ 140737488355328) :
    callH L T 34 tag [.ref 0 (tag, 0) 0, .int .i64 k] [hb 0 [.int .i64 most, .mref 1500001 (tag, 0), .msl 1000002 (tag, 0) 1 0 l.length, .int .i64 pin, .bool pinned], hb 1500001 [.mapd (l.map fun p => .int .i64 p.1) (l.map fun p => .str p.2)], hb 1000002 (l.map (fun p => .int .i64 p.1) ++ sp)] =
      some (match l.find? fun p => decide (p.1 = k) with | some p => .tup [.str p.2, .bool true] | none => .tup [.str ByteArray.empty, .bool false], [hb 0 [.int .i64 most, .mref 1500001 (tag, 0), .msl 1000002 (tag, 0) 1 0 l.length, .int .i64 pin, .bool pinned], hb 1500001 [.mapd (l.map fun p => .int .i64 p.1) (l.map fun p => .str p.2)], hb 1000002 (l.map (fun p => .int .i64 p.1) ++ sp)]) := by
  refine (call_exh2 (show T (34 + 1000000000) = some (.hcode a34) from rfl) rfl (by simp only [argEnv, Nat.reduceAdd]; apply Eq.refl) (by simp only [hb, hHeap]; apply Eq.refl)).trans ?_
  have hk := mlook_map (t := .int .i64) (ek := fun x => .int .i64 x) (ev := fun x => .str x) (fun a b => keyEq_i a b) l k (.str ByteArray.empty)
  cases hf : l.find? fun p => decide (p.1 = k) with
  | none =>
    rw [hf] at hk
    (have fA := And.intro @hs (And.intro @shut_ki @shut_vs); refine gox ?_; clear fA)
    (have fA := And.intro @hs (And.intro @shut_ki @shut_vs); refine finhx ?_; clear fA; try with_reducible rfl)
  | some q =>
    rw [hf] at hk
    (have fA := And.intro @hs (And.intro @shut_ki @shut_vs); refine gox ?_; clear fA)
    (have fA := And.intro @hs (And.intro @shut_ki @shut_vs); refine finhx ?_; clear fA; try with_reducible rfl)
theorem pin_iS (tag : Nat) (most : Int) (l : List (Int × ByteArray)) (pin : Int) (pinned : Bool) (sp : List AV) (k : Int) (hs : shutL sp = true) (hn : l.length ≤ 140737488355328) :
    callH L T 36 tag [.ref 0 (tag, 0) 0, .int .i64 k] [hb 0 [.int .i64 most, .mref 1500001 (tag, 0), .msl 1000002 (tag, 0) 1 0 l.length, .int .i64 pin, .bool pinned], hb 1500001 [.mapd (l.map fun p => .int .i64 p.1) (l.map fun p => .str p.2)], hb 1000002 (l.map (fun p => .int .i64 p.1) ++ sp)] = some (.tup [], [hb 0 [.int .i64 most, .mref 1500001 (tag, 0), .msl 1000002 (tag, 0) 1 0 l.length, .int .i64 k, .bool true], hb 1500001 [.mapd (l.map fun p => .int .i64 p.1) (l.map fun p => .str p.2)], hb 1000002 (l.map (fun p => .int .i64 p.1) ++ sp)]) := by
  refine (call_exh2 (show T (36 + 1000000000) = some (.hcode a36) from rfl) rfl (by simp only [argEnv, Nat.reduceAdd]; apply Eq.refl) (by simp only [hb, hHeap]; apply Eq.refl)).trans ?_
  (have fA := And.intro @hs (And.intro @shut_ki @shut_vs); refine gox ?_; clear fA)
  (have fA := And.intro @hs (And.intro @shut_ki @shut_vs); refine finhx ?_; clear fA; try with_reducible rfl)
theorem free_iS (tag : Nat) (most : Int) (l : List (Int × ByteArray)) (pin : Int) (pinned : Bool) (sp : List AV) (hs : shutL sp = true) (hn : l.length ≤ 140737488355328) :
    callH L T 37 tag [.ref 0 (tag, 0) 0] [hb 0 [.int .i64 most, .mref 1500001 (tag, 0), .msl 1000002 (tag, 0) 1 0 l.length, .int .i64 pin, .bool pinned], hb 1500001 [.mapd (l.map fun p => .int .i64 p.1) (l.map fun p => .str p.2)], hb 1000002 (l.map (fun p => .int .i64 p.1) ++ sp)] = some (.tup [], [hb 0 [.int .i64 most, .mref 1500001 (tag, 0), .msl 1000002 (tag, 0) 1 0 l.length, .int .i64 pin, .bool false], hb 1500001 [.mapd (l.map fun p => .int .i64 p.1) (l.map fun p => .str p.2)], hb 1000002 (l.map (fun p => .int .i64 p.1) ++ sp)]) := by
  refine (call_exh2 (show T (37 + 1000000000) = some (.hcode a37) from rfl) rfl (by simp only [argEnv, Nat.reduceAdd]; apply Eq.refl) (by simp only [hb, hHeap]; apply Eq.refl)).trans ?_
  (have fA := And.intro @hs (And.intro @shut_ki @shut_vs); refine gox ?_; clear fA)
  (have fA := And.intro @hs (And.intro @shut_ki @shut_vs); refine finhx ?_; clear fA; try with_reducible rfl)
theorem len_iS (tag : Nat) (most : Int) (l : List (Int × ByteArray)) (pin : Int) (pinned : Bool) (sp : List AV) (hs : shutL sp = true) (hn : l.length ≤ 140737488355328) :
    callH L T 31 tag [.ref 0 (tag, 0) 0] [hb 0 [.int .i64 most, .mref 1500001 (tag, 0), .msl 1000002 (tag, 0) 1 0 l.length, .int .i64 pin, .bool pinned], hb 1500001 [.mapd (l.map fun p => .int .i64 p.1) (l.map fun p => .str p.2)], hb 1000002 (l.map (fun p => .int .i64 p.1) ++ sp)] = some (.int .i64 l.length, [hb 0 [.int .i64 most, .mref 1500001 (tag, 0), .msl 1000002 (tag, 0) 1 0 l.length, .int .i64 pin, .bool pinned], hb 1500001 [.mapd (l.map fun p => .int .i64 p.1) (l.map fun p => .str p.2)], hb 1000002 (l.map (fun p => .int .i64 p.1) ++ sp)]) := by
  refine (call_exh2 (show T (31 + 1000000000) = some (.hcode a31) from rfl) rfl (by simp only [argEnv, Nat.reduceAdd]; apply Eq.refl) (by simp only [hb, hHeap]; apply Eq.refl)).trans ?_
  (have fA := And.intro @hs (And.intro @shut_ki @shut_vs); refine gox ?_; clear fA)
  (have fA := And.intro @hs (And.intro @shut_ki @shut_vs); refine finhx ?_; clear fA; try with_reducible rfl)

end Go.Proofs.YtmckiigefkfpaaaDoor
