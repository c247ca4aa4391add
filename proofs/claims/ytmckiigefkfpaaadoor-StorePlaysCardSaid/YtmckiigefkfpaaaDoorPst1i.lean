/- Functions of the seat, worked off from their code: chunk st1i. Written by program (tools/mkp.py) from wip/fn. -/
import Derived.Test.YtmckiigefkfpaaaDoorSimT
import Derived.Test.YtmckiigefkfpaaaDoorSimY
import Derived.Test.YtmckiigefkfpaaaDoorPst0
set_option maxRecDepth 100000
set_option maxHeartbeats 40000000
set_option linter.unusedSimpArgs false
set_option linter.unusedVariables false
namespace Go.Proofs.YtmckiigefkfpaaaDoor
open Go Go.Sim
attribute [local irreducible] chk brX hX finH keyX visit packed backPk backOk backHeap stays getAll getX strX setX takeX normX fillX lendX partsX opsX callK lentK lentR giveX adoptX resX joinX headX loopX seqK blkK regK finX exOps ex eqT
attribute [local simp] setR_int setR_bool setR_zero setR_succ repl_int repl_bool List.getElem?_cons_zero List.getElem?_cons_succ List.getElem?_nil w_i64 w_u64 w_u8 bAnd_u8 bOr_u8 bXor_u8 bAndNot_u8 bShl_u8 wrap_u8_range all_plain_int all_plain_bool all_plain_app pl_bool pl_int pl_str pl_nilp pl_nsl pl_nilI pl_nilF take_map_len AV.cells TI.isAgg
theorem index_i (tag f : Nat) (ks : List Int) (sp : List AV) (k : Int) (hs : shutL sp = true) (hn : ks.length ≤ 140737488355328)
    (hf : ∀ (tag : Nat) (x : Int), callω L T f tag [.int .i64 x, .ref 1 (tag, 0) 0] [none, some [.int .i64 k]] = some (.bool (decide (x = k)), [none, some [.int .i64 k]])) :
    callH L T 66 tag [.msl 0 (tag, 0) 1 0 ks.length, .fn f [.ref 2000000 (tag, 0) 0]] [hb 0 (ks.map (AV.int .i64) ++ sp), hb 2000000 [.int .i64 k]] =
      some (.int .i64 (ixF (fun x => decide (x = k)) 0 ks), [hb 0 (ks.map (AV.int .i64) ++ sp), hb 2000000 [.int .i64 k]]) := by
  refine (call_exh2 (show T (66 + 1000000000) = some (.hcode a66) from rfl) rfl (by simp only [argEnv, Nat.reduceAdd]; apply Eq.refl) (by simp only [hb, hHeap]; apply Eq.refl)).trans ?_
  (have c1 := fun x1 x2 => hf x1 x2; refine gox ?_; clear c1)
  refine Eq.trans (headX_at (fun j nx => ⟨[(0, .msl 0 (tag, 0) 1 0 ks.length), (1, .fn f [.ref 2000000 (tag, 0) 0]), (7, .int .i64 (ks.length : Nat)), (8, .int .i64 (j : Nat))],
    [(0, ⟨(tag, 0), ks.map (AV.int .i64) ++ sp⟩), (2000000, ⟨(tag, 0), [.int .i64 k]⟩)], nx, tag⟩) ks.length (fun j => some (.int .i64 (ixF (fun x => decide (x = k)) j (ks.drop j)), [hb 0 (ks.map (AV.int .i64) ++ sp), hb 2000000 [.int .i64 k]])) ?_ ?_ 1) (by simp)
  · intro j nx hj ih
    have h1 : (ks.map (AV.int .i64) ++ sp)[j]? = some (.int .i64 ks[j]) := map_at _ _ _ hj
    have hd := List.drop_eq_getElem_cons hj
    by_cases hk : ks[j] = k
    · have hx := decide_eq_true hk
      (have fA := @h1; have c1 := fun x1 x2 => hf x1 x2; refine gox ?_; clear fA c1)
      (have fA := And.intro @shutL_app (And.intro @hs @shutL_map); refine finhx ?_; clear fA; try with_reducible rfl)
      rw [hd, ixF, if_pos hx]
    · have hx := decide_eq_false hk
      (have fA := @h1; have c1 := fun x1 x2 => hf x1 x2; refine gox ?_; clear fA c1)
      refine (head_eq ?_ rfl rfl).trans ((ih _).trans ?_)
      · rw [wrap_succ hj (by omega)]
      · rw [hd, ixF, if_neg (by rw [hx]; decide)]
  · intro nx
    (have c1 := fun x1 x2 => hf x1 x2; refine gox ?_; clear c1)
    (have fA := @hs; refine finhx ?_; clear fA; try with_reducible rfl)
    rw [List.drop_length]; rfl
theorem delete_i (tag f : Nat) (ks : List Int) (sp : List AV) (k : Int) (hs : shutL sp = true) (hn : ks.length ≤ 140737488355328)
    (hf : ∀ (tag : Nat) (x : Int), callω L T f tag [.int .i64 x, .ref 1 (tag, 0) 0] [none, some [.int .i64 k]] = some (.bool (decide (x = k)), [none, some [.int .i64 k]])) :
    callH L T 56 tag [.msl 0 (tag, 0) 1 0 ks.length, .fn f [.ref 2000000 (tag, 0) 0]] [hb 0 (ks.map (AV.int .i64) ++ sp), hb 2000000 [.int .i64 k]] =
      some (.msl 0 (tag, 0) 1 0 (ks.filter fun x => !decide (x = k)).length, [hb 0 ((ks.filter fun x => !decide (x = k)).map (AV.int .i64) ++ (List.replicate (ks.length - (ks.filter fun x => !decide (x = k)).length) (.int .i64 0) ++ sp)), hb 2000000 [.int .i64 k]]) := by
  refine (call_exh2 (show T (56 + 1000000000) = some (.hcode a56) from rfl) rfl (by simp only [argEnv, Nat.reduceAdd]; apply Eq.refl) (by simp only [hb, hHeap]; apply Eq.refl)).trans ?_
  by_cases hm : ixF (fun x => decide (x = k)) 0 ks = -1
  · have hx : (ixF (fun x => decide (x = k)) 0 ks == -1) = true := by rw [hm]; rfl
    (have fA := @hs; have c1 := fun x1 => index_i x1 f ks sp k hs hn hf; refine gox ?_; clear fA c1)
    (have fA := And.intro @hs @shutL_map; refine finhx ?_; clear fA; try with_reducible rfl)
    rw [ix_none ks 0 hm, Nat.sub_self]
    rfl
  · have hx : (ixF (fun x => decide (x = k)) 0 ks == -1) = false := by simpa using hm
    (have fA := @hs; have c1 := fun x1 => index_i x1 f ks sp k hs hn hf; refine gox ?_; clear fA c1)
    obtain ⟨i, hi, h1, h2, h3⟩ := ix_some ks 0 hm
    simp only [Nat.zero_add] at h1
    rw [h1, wrap_succ hi (by omega)]
    obtain ⟨e1, e2⟩ := dl_first hi h2 h3
    refine Eq.trans (head_eq (env' := [(0, .msl 0 (tag, 0) 1 0 ks.length), (1, .fn f [.ref 2000000 (tag, 0) 0]), (5, .int .i64 (nk (fun x => decide (x = k)) ks (i + 1) : Nat)), (6, .int .i64 (i + 1 : Nat))])
      (heap' := [(0, ⟨(tag, 0), (dl (fun x => decide (x = k)) ks (i + 1)).map (AV.int .i64) ++ sp⟩), (2000000, ⟨(tag, 0), [.int .i64 k]⟩)]) (by rw [e2]) (by rw [e1]) rfl) ?_
    refine Eq.trans (headX_atX (fun _ _ => True) (fun j nx => ⟨[(0, .msl 0 (tag, 0) 1 0 ks.length), (1, .fn f [.ref 2000000 (tag, 0) 0]), (5, .int .i64 (nk (fun x => decide (x = k)) ks j : Nat)), (6, .int .i64 (j : Nat))],
      [(0, ⟨(tag, 0), (dl (fun x => decide (x = k)) ks j).map (AV.int .i64) ++ sp⟩), (2000000, ⟨(tag, 0), [.int .i64 k]⟩)], nx, tag⟩) ks.length (fun _ _ => some (.msl 0 (tag, 0) 1 0 (ks.filter fun x => !decide (x = k)).length, [hb 0 ((ks.filter fun x => !decide (x = k)).map (AV.int .i64) ++ (List.replicate (ks.length - (ks.filter fun x => !decide (x = k)).length) (.int .i64 0) ++ sp)), hb 2000000 [.int .i64 k]])) ?_ ?_ (i + 1) (by omega) _ trivial) rfl
    · intro j nx hj _ ih
      have l1 := dl_len (p := fun x => decide (x = k)) ks j
      have l2 := nk_le (p := fun x => decide (x = k)) ks j
      have h4 : ((dl (fun x => decide (x = k)) ks j).map (AV.int .i64) ++ sp)[j]? = some (.int .i64 ks[j]) := by rw [map_at _ _ _ (by omega), dl_at hj]
      by_cases hk : ks[j] = k
      · have hb1 : (!decide (ks[j] = k)) = false := by rw [decide_eq_true hk]; rfl
        (have fA := And.intro @h4 @hs; have c1 := fun x1 x2 => hf x1 x2; refine gox ?_; clear fA c1)
        refine Eq.trans (head_eq ?_ ?_ rfl) (ih _ trivial)
        · rw [wrap_succ hj (by omega), nk_skip hj (by simpa using hk)]
        · rw [dl_skip hj (by simpa using hk)]
      · have hb1 : (!decide (ks[j] = k)) = true := by rw [decide_eq_false hk]; rfl
        (have fA := And.intro @h4 @hs; have c1 := fun x1 x2 => hf x1 x2; refine gox ?_; clear fA c1)
        have hk' : decide (ks[j] = k) = false := decide_eq_false hk
        refine Eq.trans (head_eq ?_ ?_ rfl) (ih _ trivial)
        · rw [wrap_succ hj (by omega), wrap_succ (show nk _ ks j < ks.length by omega) (by omega), nk_keep hj hk']
        · rw [set_map _ _ _ (by omega), dl_keep (p := fun x => decide (x = k)) hj hk']
    · intro nx _
      have l1 := dl_len (p := fun x => decide (x = k)) ks ks.length
      have l3 := nk_len (p := fun x => decide (x = k)) ks ks.length
      (have fA := And.intro @hs @l1; have c1 := fun x1 x2 => hf x1 x2; refine gox ?_; clear fA c1)
      first | rw [clear_map] | rw [clear_mapI]
      (have fA := @hs; refine finhx ?_; clear fA; try with_reducible rfl)
      exact ans_eq (by rw [← nk_end]; rfl) rfl
theorem deleteP_i {β : Type} (tag f : Nat) (l : List (Int × β)) (sp : List AV) (k : Int) (hs : shutL sp = true) (hn : l.length ≤ 140737488355328)
    (hf : ∀ (tag : Nat) (x : Int), callω L T f tag [.int .i64 x, .ref 1 (tag, 0) 0] [none, some [.int .i64 k]] = some (.bool (decide (x = k)), [none, some [.int .i64 k]])) :
    callH L T 56 tag [.msl 0 (tag, 0) 1 0 l.length, .fn f [.ref 2000000 (tag, 0) 0]] [hb 0 (l.map (fun p => .int .i64 p.1) ++ sp), hb 2000000 [.int .i64 k]] =
      some (.msl 0 (tag, 0) 1 0 (l.filter fun p => !decide (p.1 = k)).length, [hb 0 ((l.filter fun p => !decide (p.1 = k)).map (fun p => .int .i64 p.1) ++ (List.replicate (l.length - (l.filter fun p => !decide (p.1 = k)).length) (.int .i64 0) ++ sp)), hb 2000000 [.int .i64 k]]) := by
  have := delete_i tag f (l.map (·.1)) sp k hs (by simpa using hn) hf
  simpa [List.filter_map, List.map_map, Function.comp_def] using this
theorem indexN_i (tag f : Nat) (k : Int)
    (hf : ∀ (tag : Nat) (x : Int), callω L T f tag [.int .i64 x, .ref 1 (tag, 0) 0] [none, some [.int .i64 k]] = some (.bool (decide (x = k)), [none, some [.int .i64 k]])) :
    callH L T 66 tag [.nsl, .fn f [.ref 2000000 (tag, 0) 0]] [hb 2000000 [.int .i64 k]] = some (.int .i64 (-1), [hb 2000000 [.int .i64 k]]) := by
  refine (call_exh2 (show T (66 + 1000000000) = some (.hcode a66) from rfl) rfl (by simp only [argEnv, Nat.reduceAdd]; apply Eq.refl) (by simp only [hb, hHeap]; apply Eq.refl)).trans ?_
  (have c1 := fun x1 x2 => hf x1 x2; refine gox ?_; clear c1)
  refine headX_go.trans ?_
  (have c1 := fun x1 x2 => hf x1 x2; refine gox ?_; clear c1)
  (refine finhx ?_; try with_reducible rfl)
theorem deleteN_i (tag f : Nat) (k : Int)
    (hf : ∀ (tag : Nat) (x : Int), callω L T f tag [.int .i64 x, .ref 1 (tag, 0) 0] [none, some [.int .i64 k]] = some (.bool (decide (x = k)), [none, some [.int .i64 k]])) :
    callH L T 56 tag [.nsl, .fn f [.ref 2000000 (tag, 0) 0]] [hb 2000000 [.int .i64 k]] = some (.nsl, [hb 2000000 [.int .i64 k]]) := by
  refine (call_exh2 (show T (56 + 1000000000) = some (.hcode a56) from rfl) rfl (by simp only [argEnv, Nat.reduceAdd]; apply Eq.refl) (by simp only [hb, hHeap]; apply Eq.refl)).trans ?_
  (have c1 := fun x1 => indexN_i x1 f k hf; refine gox ?_; clear c1)
  (refine finhx ?_; try with_reducible rfl)

end Go.Proofs.YtmckiigefkfpaaaDoor
