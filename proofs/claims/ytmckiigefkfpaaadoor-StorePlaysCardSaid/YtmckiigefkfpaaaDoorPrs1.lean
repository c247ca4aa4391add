/- Functions of the seat, worked off from their code: chunk rs1. Written by program (tools/mkp.py) from wip/fn. -/
import Derived.Test.YtmckiigefkfpaaaDoorSimT
import Derived.Test.YtmckiigefkfpaaaDoorSimY
import Derived.Test.YtmckiigefkfpaaaDoorPst0
set_option maxRecDepth 100000
set_option maxHeartbeats 40000000
set_option linter.unusedSimpArgs false
set_option linter.unusedVariables false
namespace Go.Proofs.YtmckiigefkfpaaaDoor
open Go Go.Sim
attribute [local irreducible] chk brX hX finH keyX visit packed backPk backOk backHeap stays getAll getX strX setX takeX normX fillX lendX partsX opsX callK lentK lentR giveX adoptX resX joinX headX loopX seqK blkK regK finX exOps ex eqT
attribute [local simp] setR_int setR_bool setR_zero setR_succ repl_int repl_bool List.getElem?_cons_zero List.getElem?_cons_succ List.getElem?_nil w_i64 w_u64 w_u8 bAnd_u8 bOr_u8 bXor_u8 bAndNot_u8 bShl_u8 wrap_u8_range all_plain_int all_plain_bool all_plain_app pl_bool pl_int pl_str pl_nilp pl_nsl pl_nilI pl_nilF take_map_len AV.cells TI.isAgg
theorem take_one {α : Type} (f : α → AV) (xs : List α) {k : Nat} (hk : k < xs.length) : (xs.take k).map f ++ [f xs[k]] = (xs.take (k + 1)).map f := by
  rw [List.take_add_one, List.getElem?_eq_getElem hk, List.map_append]; rfl
theorem erase_map {α : Type} (f : α → AV) (l : List α) (i : Nat) (hi : i < l.length) : List.take i (List.take i (l.map f)) ++ List.take (l.length - (i + 1)) (List.drop (i + 1) (l.map f)) = (l.eraseIdx i).map f := by
  rw [List.take_take, Nat.min_self, List.take_of_length_le (l := List.drop (i + 1) (l.map f)) (by simp), List.eraseIdx_eq_take_drop_succ, List.map_append, List.map_take, List.map_drop]
theorem r_Ints (tag : Nat) (xs : List Int) (h : xs.length < 1000000) : callω L T 63 tag [.isl 1 xs.length (xs.map (.int .i64))] [none] = some (.fsl 1 xs.length (xs.map (.int .i64)), [none]) := by
  rw [call_ex (show T 63 = some (.code a63) from rfl) rfl rfl]
  (refine gox ?_)
  refine Eq.trans (headX_atX (X := Nat × Nat) (fun _ _ => True) (fun k x => ⟨[(0, .isl 1 xs.length (xs.map (.int .i64))), (3, .msl 7 (tag, x.1) 1 0 k), (4, .int .i64 k)], [(7, ⟨(tag, x.1), (xs.take k).map (.int .i64)⟩)], x.2, tag⟩) xs.length (fun _ _ => some (.fsl 1 xs.length (xs.map (.int .i64)), [none])) ?_ ?_ 0 (by omega) (_, _) trivial) rfl
  · rintro k ⟨g, nx⟩ hk - ih
    have hl : ((xs.take k).map (AV.int .i64)).length = k := by simp; omega
    have hg : (xs.map (AV.int .i64))[k]? = some (.int .i64 xs[k]) := by rw [List.getElem?_map, List.getElem?_eq_getElem hk]; rfl
    have ha := take_one (AV.int .i64) xs hk
    dsimp only at ih ⊢
    refine Eq.trans ?_ (ih (nx + 1, nx + 1 + 1) trivial)
    generalize (xs.take k).map (AV.int .i64) = ca at hl ha ⊢
    generalize xs.map (AV.int .i64) = cx at hg ⊢
    (have fA := And.intro @hl (And.intro @hg (@List.drop_zero AV)); refine gox ?_; clear fA)
    refine head_eq ?_ ?_ rfl
    · simp [wrap_succ hk (by omega)]
    · simp [ha]
  · rintro ⟨g, nx⟩ -
    have hl : ((xs.take xs.length).map (AV.int .i64)).length = xs.length := by simp
    have hp : ((xs.take xs.length).map (AV.int .i64)).all AV.plain = true := by simp [AV.plain]
    have he : (xs.take xs.length).map (AV.int .i64) = xs.map (.int .i64) := by rw [List.take_length]
    dsimp only
    rw [← he]
    generalize (xs.take xs.length).map (AV.int .i64) = ca at hl hp ⊢
    (have fA := And.intro @hl (@List.drop_zero AV); refine gox ?_; clear fA)
    (have fA := And.intro @hl (And.intro @hp (@List.drop_zero AV)); refine finx ?_; clear fA; try with_reducible rfl)
    try rfl
theorem r_Texts (tag : Nat) (xs : List ByteArray) (h : xs.length < 1000000) : callω L T 64 tag [.isl 1 xs.length (xs.map .str)] [none] = some (.fsl 1 xs.length (xs.map .str), [none]) := by
  rw [call_ex (show T 64 = some (.code a64) from rfl) rfl rfl]
  (refine gox ?_)
  refine Eq.trans (headX_atX (X := Nat × Nat) (fun _ _ => True) (fun k x => ⟨[(0, .isl 1 xs.length (xs.map .str)), (3, .msl 7 (tag, x.1) 1 0 k), (4, .int .i64 k)], [(7, ⟨(tag, x.1), (xs.take k).map .str⟩)], x.2, tag⟩) xs.length (fun _ _ => some (.fsl 1 xs.length (xs.map .str), [none])) ?_ ?_ 0 (by omega) (_, _) trivial) rfl
  · rintro k ⟨g, nx⟩ hk - ih
    have hl : ((xs.take k).map AV.str).length = k := by simp; omega
    have hg : (xs.map AV.str)[k]? = some (.str xs[k]) := by rw [List.getElem?_map, List.getElem?_eq_getElem hk]; rfl
    have ha := take_one AV.str xs hk
    dsimp only at ih ⊢
    refine Eq.trans ?_ (ih (nx + 1, nx + 1 + 1) trivial)
    generalize (xs.take k).map AV.str = ca at hl ha ⊢
    generalize xs.map AV.str = cx at hg ⊢
    (have fA := And.intro @hl (And.intro @hg (@List.drop_zero AV)); refine gox ?_; clear fA)
    refine head_eq ?_ ?_ rfl
    · simp [wrap_succ hk (by omega)]
    · simp [ha]
  · rintro ⟨g, nx⟩ -
    have hl : ((xs.take xs.length).map AV.str).length = xs.length := by simp
    have hp : ((xs.take xs.length).map AV.str).all AV.plain = true := by simp [AV.plain]
    have he : (xs.take xs.length).map AV.str = xs.map .str := by rw [List.take_length]
    dsimp only
    rw [← he]
    generalize (xs.take xs.length).map AV.str = ca at hl hp ⊢
    (have fA := And.intro @hl (@List.drop_zero AV); refine gox ?_; clear fA)
    (have fA := And.intro @hl (And.intro @hp (@List.drop_zero AV)); refine finx ?_; clear fA; try with_reducible rfl)
    try rfl
theorem r_Same (tag : Nat) (xs : List Int) (h : xs.length < 1000000) : callω L T 25 tag [.isl 1 xs.length (xs.map (.int .i64)), .isl 1 xs.length (xs.map (.int .i64))] [none, none] = some (.bool true, [none, none]) := by
  rw [call_ex (show T 25 = some (.code a25) from rfl) rfl rfl]
  (refine gox ?_)
  refine Eq.trans (headX_at (fun k nx => ⟨[(0, .isl 1 xs.length (xs.map (.int .i64))), (1, .isl 1 xs.length (xs.map (.int .i64))), (5, .int .i64 (k : Nat))], [], nx, tag⟩) xs.length (fun _ => some (.bool true, [none, none])) ?_ ?_ _) rfl
  · intro k nx hk ih
    have hg : (xs.map (AV.int .i64))[k]? = some (.int .i64 xs[k]) := by rw [List.getElem?_map, List.getElem?_eq_getElem hk]; rfl
    have hb : (xs[k] == xs[k]) = true := beq_self_eq_true _
    generalize xs.map (AV.int .i64) = cx at hg ih ⊢
    (have fA := @hg; refine gox ?_; clear fA)
    refine Eq.trans (head_eq (by rw [wrap_succ hk (by omega)]) rfl rfl) (ih _)
  · intro nx
    (refine gox ?_)
    (refine finx ?_; try with_reducible rfl)
    try rfl
theorem r_SameN (tag : Nat) : callω L T 25 tag [.isl 1 0 [], .nsl] [none, none] = some (.bool true, [none, none]) := by
  rw [call_ex (show T 25 = some (.code a25) from rfl) rfl rfl]
  (refine gox ?_)
  rw [headX_go]
  (refine gox ?_)
  (refine finx ?_; try with_reducible rfl)
  try rfl
theorem find_r (tag : Nat) (most : Int) (l : List (Int × ByteArray)) (pin : Int) (pinned : Bool) (k : Int) (hn : l.length < 1000000) :
    callH L T 52 tag [.ref 0 (tag, 0) 0, .int .i64 k] [hb 0 [.int .i64 most, .msl 1000001 (tag, 0) 1 0 l.length, .msl 1000002 (tag, 0) 1 0 l.length, .bool pinned, .int .i64 pin], hb 1000001 (l.map fun p => .int .i64 p.1), hb 1000002 (l.map fun p => .str p.2)] =
     some (.int .i64 (ixF (fun p => decide (p.1 = k)) 0 l), [hb 0 [.int .i64 most, .msl 1000001 (tag, 0) 1 0 l.length, .msl 1000002 (tag, 0) 1 0 l.length, .bool pinned, .int .i64 pin], hb 1000001 (l.map fun p => .int .i64 p.1), hb 1000002 (l.map fun p => .str p.2)]) := by
  refine (call_exh2 (show T (52 + 1000000000) = some (.hcode a52) from rfl) rfl (by simp only [argEnv, Nat.reduceAdd]; apply Eq.refl) (by simp only [hb, hHeap]; apply Eq.refl)).trans ?_
  (refine gox ?_)
  refine Eq.trans (headX_at (fun j nx => ⟨[(0, .ref 0 (tag, 0) 0), (1, .int .i64 k), (5, .int .i64 (j : Nat))],
    [(0, ⟨(tag, 0), [.int .i64 most, .msl 1000001 (tag, 0) 1 0 l.length, .msl 1000002 (tag, 0) 1 0 l.length, .bool pinned, .int .i64 pin]⟩), (1000001, ⟨(tag, 0), l.map fun p => .int .i64 p.1⟩), (1000002, ⟨(tag, 0), l.map fun p => .str p.2⟩)], nx, tag⟩) l.length
    (fun j => some (.int .i64 (ixF (fun p => decide (p.1 = k)) j (l.drop j)), [hb 0 [.int .i64 most, .msl 1000001 (tag, 0) 1 0 l.length, .msl 1000002 (tag, 0) 1 0 l.length, .bool pinned, .int .i64 pin], hb 1000001 (l.map fun p => .int .i64 p.1), hb 1000002 (l.map fun p => .str p.2)])) ?_ ?_ _) (by simp)
  · intro j nx hj ih
    have h1 : (l.map fun p => (.int .i64 p.1 : AV))[j]? = some (.int .i64 l[j].1) := by simp [hj]
    have hd := List.drop_eq_getElem_cons hj
    by_cases hk : l[j].1 = k
    · have hx := decide_eq_true hk
      have hx2 : (l[j].1 == k) = true := by simpa using hk
      (have fA := @h1; refine gox ?_; clear fA)
      (have fA := And.intro @shut_ki @shut_vs; refine finhx ?_; clear fA; try with_reducible rfl)
      rw [hd, ixF, if_pos hx]
    · have hx := decide_eq_false hk
      have hx2 : (l[j].1 == k) = false := by simpa using hk
      (have fA := @h1; refine gox ?_; clear fA)
      refine (head_eq ?_ rfl rfl).trans ((ih _).trans ?_)
      · rw [wrap_succ hj (by omega)]
      · rw [hd, ixF, if_neg (by rw [hx]; decide)]
  · intro nx
    (refine gox ?_)
    (have fA := And.intro @shut_ki @shut_vs; refine finhx ?_; clear fA; try with_reducible rfl)
    rw [List.drop_length]; rfl
theorem findN_r (tag : Nat) (most : Int) (pin : Int) (pinned : Bool) (k : Int) :
    callH L T 52 tag [.ref 0 (tag, 0) 0, .int .i64 k] [hb 0 [.int .i64 most, .nsl, .nsl, .bool pinned, .int .i64 pin]] = some (.int .i64 (-1), [hb 0 [.int .i64 most, .nsl, .nsl, .bool pinned, .int .i64 pin]]) := by
  refine (call_exh2 (show T (52 + 1000000000) = some (.hcode a52) from rfl) rfl (by simp only [argEnv, Nat.reduceAdd]; apply Eq.refl) (by simp only [hb, hHeap]; apply Eq.refl)).trans ?_
  (refine gox ?_)
  rw [headX_go]
  (refine gox ?_)
  (refine finhx ?_; try with_reducible rfl)
theorem drop_r (tag : Nat) (most : Int) (l : List (Int × ByteArray)) (pin : Int) (pinned : Bool) (i : Nat) (hi : i < l.length) (hn : l.length < 1000000) :
    callH L T 53 tag [.ref 0 (tag, 0) 0, .int .i64 i] [hb 0 [.int .i64 most, .msl 1000001 (tag, 0) 1 0 l.length, .msl 1000002 (tag, 0) 1 0 l.length, .bool pinned, .int .i64 pin], hb 1000001 (l.map fun p => .int .i64 p.1), hb 1000002 (l.map fun p => .str p.2)] =
     some (.tup [], [hb 0 [.int .i64 most, .msl 1000001 (tag, 0) 1 0 (l.eraseIdx i).length, .msl 1000002 (tag, 0) 1 0 (l.eraseIdx i).length, .bool pinned, .int .i64 pin], hb 1000001 ((l.eraseIdx i).map fun p => .int .i64 p.1), hb 1000002 ((l.eraseIdx i).map fun p => .str p.2)]) := by
  refine (call_exh2 (show T (53 + 1000000000) = some (.hcode a53) from rfl) rfl (by simp only [argEnv, Nat.reduceAdd]; apply Eq.refl) (by simp only [hb, hHeap]; apply Eq.refl)).trans ?_
  have e1 : ((l.take i).map (·.1)).length = i := by simp; omega
  have e2 : ((l.take i).map (·.1)).map (AV.int .i64) = (l.map fun p => .int .i64 p.1).take i := by rw [List.map_map, ← List.map_take]; rfl
  have e3 : ((l.take i).map (·.2)).length = i := by simp; omega
  have e4 : ((l.take i).map (·.2)).map AV.str = (l.map fun p => .str p.2).take i := by rw [List.map_map, ← List.map_take]; rfl
  have ci := fun tag => r_Ints tag ((l.take i).map (·.1)) (by rw [e1]; omega)
  have ct := fun tag => r_Texts tag ((l.take i).map (·.2)) (by rw [e3]; omega)
  simp only [e1, e2] at ci
  simp only [e3, e4] at ct
  have hw : IntKind.i64.wrap ((i : Int) + 1) = ((i + 1 : Nat) : Int) := by rw [w_i64 (by omega) (by omega)]; omega
  have q1 := erase_map (fun p : Int × ByteArray => (.int .i64 p.1 : AV)) l i hi
  have q2 := erase_map (fun p : Int × ByteArray => (.str p.2 : AV)) l i hi
  have q3 : i + (l.length - (i + 1)) = (l.eraseIdx i).length := by rw [List.length_eraseIdx]; simp only [hi, if_true]; omega
  (have fA := @hw; have c1 := fun x1 => ci x1; have c2 := fun x1 => ct x1; refine gox ?_; clear fA c1 c2)
  simp only [hw, Int.toNat_natCast, q1, q2, q3]
  (have fA := And.intro @shut_ki @shut_vs; refine finhx ?_; clear fA; try with_reducible rfl)

end Go.Proofs.YtmckiigefkfpaaaDoor
