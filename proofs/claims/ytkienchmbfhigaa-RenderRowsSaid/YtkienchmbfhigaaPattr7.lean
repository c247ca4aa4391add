/- Functions of the seat, worked off from their code: chunk attr7. Written by program (tools/mkp.py) from wip/fn. -/
import Derived.Test.YtkienchmbfhigaaSimT
import Derived.Test.YtkienchmbfhigaaSimY
import Derived.Test.YtkienchmbfhigaaPattr6
set_option maxRecDepth 100000
set_option maxHeartbeats 40000000
set_option linter.unusedSimpArgs false
set_option linter.unusedVariables false
namespace Go.Proofs.Ytkienchmbfhigaa
open Go Go.Sim
attribute [local irreducible] chk brX getX strX setX takeX normX fillX lendX partsX opsX callK lentK giveX adoptX resX joinX headX loopX seqK blkK regK finX exOps ex eqT
attribute [local simp] setR_int setR_bool setR_zero setR_succ repl_int repl_bool List.getElem?_cons_zero List.getElem?_cons_succ List.getElem?_nil w_i64 w_u64 w_u8 bAnd_u8 bOr_u8 bXor_u8 bAndNot_u8 bShl_u8 wrap_u8_range all_plain_int all_plain_bool all_plain_app pl_bool pl_int pl_str pl_nilp pl_nsl pl_nilI pl_nilF take_map_len AV.cells TI.isAgg
attribute [local simp] Cell.flen Cell.rd Cell.g0 Cell.g1 Cell.g2 Cell.g3 Cell.g4 Cell.g5 Cell.g6 Cell.g7 Cell.g8 Cell.g9 Cell.put Cell.pute Cell.s0 Cell.s1 Cell.s2 Cell.s3 Cell.s4 Cell.s5 Cell.s6 Cell.s7 Cell.s8 Cell.s9 Cell.zero Cell.enc At.flen At.rd At.g0 At.g1 At.g2 At.g3 At.g4 At.g5 At.g6 At.g7 At.g8 At.g9 At.g10 At.put At.pute At.s0 At.s1 At.s2 At.s3 At.s4 At.s5 At.s6 At.s7 At.s8 At.s9 At.s10 At.zero At.enc

theorem u8_eq {x d : Int} (hx : 0 ≤ x ∧ x < 256) (hd : 0 ≤ d ∧ d < 256) : (x.toNat % 256 = d.toNat % 256) ↔ x = d := by omega
theorem idx_at : ∀ (xs : List Int) (d : Int) (hx : ∀ x ∈ xs, 0 ≤ x ∧ x < 256) (hd : 0 ≤ d ∧ d < 256) (k : Nat) (h : k < xs.length), xs[k] = d → (∀ j (hj : j < xs.length), j < k → xs[j] ≠ d) → idxOf xs d = k
  | [], _, _, _, _, h, _, _ => absurd h (by simp)
  | x :: l, d, hx, hd, 0, _, e, _ => by simp only [List.getElem_cons_zero] at e; simp [idxOf, e]
  | x :: l, d, hx, hd, k + 1, h, e, hn => by
    have h0 : ¬ x = d := hn 0 (by simp) (by omega)
    have := idx_at l d (fun y hy => hx y (List.mem_cons_of_mem _ hy)) hd k (by simpa using h) (by simpa using e) (fun j hj hk => by have := hn (j + 1) (by simp; omega) (by omega); simpa using this)
    have h1 : ¬ x.toNat % 256 = d.toNat % 256 := fun q => h0 ((u8_eq (hx x (by simp)) hd).1 q)
    simp only [idxOf, h1, if_false, this]
    rw [if_neg (by omega)]
    omega
theorem idx_no : ∀ (xs : List Int) (d : Int) (hx : ∀ x ∈ xs, 0 ≤ x ∧ x < 256) (hd : 0 ≤ d ∧ d < 256), (∀ j (hj : j < xs.length), xs[j] ≠ d) → idxOf xs d = -1
  | [], _, _, _, _ => rfl
  | x :: l, d, hx, hd, hn => by
    have h0 : ¬ x = d := hn 0 (by simp)
    have := idx_no l d (fun y hy => hx y (List.mem_cons_of_mem _ hy)) hd (fun j hj => by have := hn (j + 1) (by simp; omega); simpa using this)
    have h1 : ¬ x.toNat % 256 = d.toNat % 256 := fun q => h0 ((u8_eq (hx x (by simp)) hd).1 q)
    simp [idxOf, h1, this]
def natL (o : Int) : List Int := tabL.getD (if o < 0 ∨ 13 ≤ o then 0 else o.toNat) []
theorem and7_8 : ∀ x, x < 256 → bAnd .u8 ((x : Nat) : Int) 7 = ((x % 8 : Nat) : Int) := by decide +kernel
theorem pat_eq : byteB (fun c => decide (bOr .i64 (IntKind.i64.wrap (bAnd .u8 c 31)) (bShl .i64 (IntKind.i64.wrap (bAnd .u8 (bShr .u8 c 6) 1)) 5) = frenchI c ∨ isMos c = false)) = true := by decide +kernel
theorem t_r1_Places (tag : Nat) : callω L T 21 tag [] [] = some (.fsl 1 13 (placesL.map (.int .u8)), []) := by
  rw [call_ex (show T 21 = some (.code a21) from rfl) rfl rfl]
  (refine gox ?_)
  (refine finx ?_; try with_reducible rfl)
  rfl
theorem t_r1_national (tag : Nat) (o : Int) : callω L T 22 tag [.int .i64 o] [none] = some (.fsl 1 13 ((natL o).map (.int .i64)), [none]) := by
  rw [call_ex (show T 22 = some (.code a22) from rfl) rfl rfl]
  have h : (o < 0 ∨ 13 ≤ o ∨ o = 0) ∨ o = 1 ∨ o = 2 ∨ o = 3 ∨ o = 4 ∨ o = 5 ∨ o = 6 ∨ o = 7 ∨ o = 8 ∨ o = 9 ∨ o = 10 ∨ o = 11 ∨ o = 12 := by omega
  rcases h with h | rfl | rfl | rfl | rfl | rfl | rfl | rfl | rfl | rfl | rfl | rfl | rfl
  · have e : natL o = natL 0 := by
      unfold natL
      rcases h with h | h | h
      · rw [if_pos (Or.inl h)]; rfl
      · rw [if_pos (Or.inr h)]; rfl
      · rw [h]
    rw [e]
    (refine gox ?_)
    (refine finx ?_; try with_reducible rfl)
    rfl
  all_goals (refine gox ?_)
  all_goals (refine finx ?_; try with_reducible rfl)
  all_goals rfl
theorem t_r1_Latin (tag : Nat) (o c : Int) : callω L T 11 tag [.int .i64 o, .int .u8 c] [none, none] = some (.int .i64 (charI o c), [none, none]) := by
  rw [call_ex (show T 11 = some (.code a11) from rfl) rfl rfl]
  (have c1 := fun x1 => t_r1_Places x1; refine gox ?_; clear c1)
  have hd := a127 c
  have hp : ∀ x ∈ placesL, 0 ≤ x ∧ x < 256 := by decide
  have e : charI o c = if idxOf placesL (bAnd .u8 c 127) < 0 then lplainI c else tabI (if o < 0 ∨ 13 ≤ o then 0 else o.toNat) (idxOf placesL (bAnd .u8 c 127)).toNat := rfl
  rw [e]
  refine headX_for (fun k (_ : Unit) => ∀ j (hj : j < placesL.length), j < k → placesL[j] ≠ bAnd .u8 c 127) (fun k _ => ⟨[(0, .int .i64 o), (1, .int .u8 c), (5, .fsl 1 13 (placesL.map (.int .u8))), (6, .int .i64 k)], [], 1, tag⟩) 13 _ ?_ ?_ () (fun j _ hj => absurd hj (by omega))
  · intro k _ hk hI ih
    have hkl : k < placesL.length := hk
    have hg : (placesL.map (AV.int .u8))[k]? = some (.int .u8 placesL[k]) := by rw [List.getElem?_map, List.getElem?_eq_getElem hkl]; rfl
    have hnl : (natL o).length = 13 := by
      unfold natL
      split
      · rfl
      · rename_i hn
        have h : o = 0 ∨ o = 1 ∨ o = 2 ∨ o = 3 ∨ o = 4 ∨ o = 5 ∨ o = 6 ∨ o = 7 ∨ o = 8 ∨ o = 9 ∨ o = 10 ∨ o = 11 ∨ o = 12 := by omega
        rcases h with rfl | rfl | rfl | rfl | rfl | rfl | rfl | rfl | rfl | rfl | rfl | rfl | rfl <;> rfl
    by_cases q : placesL[k] = bAnd .u8 c 127
    · have hi := idx_at placesL _ hp hd k hkl q hI
      rw [hi, if_neg (by omega), Int.toNat_natCast]
      have q' : bAnd .u8 c 127 = placesL[k] := q.symm
      have hn : ((natL o).map (AV.int .i64))[k]? = some (.int .i64 (tabI (if o < 0 ∨ 13 ≤ o then 0 else o.toNat) k)) := by
        rw [List.getElem?_map, List.getElem?_eq_getElem (show k < (natL o).length by omega)]
        show some (AV.int .i64 ((natL o)[k]'(by omega))) = some (AV.int .i64 ((natL o).getD k 0))
        rw [List.getD_eq_getElem?_getD, List.getElem?_eq_getElem (show k < (natL o).length by omega)]; rfl
      generalize tabI (if o < 0 ∨ 13 ≤ o then 0 else o.toNat) k = v at hn
      have tn := t_r1_national (tag + 1) o
      generalize (natL o).map (AV.int .i64) = cs at hn tn
      generalize placesL.map (AV.int .u8) = ps at hg ⊢
      generalize placesL[k] = pk at hg q q'
      (have fA := And.intro @hg @hn; have c1 := tn; refine gox ?_; clear fA c1)
      (refine finx ?_; try with_reducible rfl)
      try rfl
    · refine Eq.trans ?_ (ih () (fun j hj hjk => ?_))
      · have q' : ¬ bAnd .u8 c 127 = placesL[k] := fun x => q x.symm
        generalize placesL.map (AV.int .u8) = ps at hg ⊢
        generalize placesL[k] = pk at hg q q'
        (have fA := @hg; refine gox ?_; clear fA)
        refine head_eq ?_ rfl rfl
        simp [wrap_succ hk (by omega)]
      · by_cases hjk2 : j = k
        · subst hjk2; exact q
        · exact hI j hj (by omega)
  · intro _ hI
    have hi := idx_no placesL _ hp hd (fun j hj => hI j hj hj)
    rw [hi, if_pos (by omega)]
    (have c1 := fun x1 x2 => t_r1_Plain x1 x2; refine gox ?_; clear c1)
    (refine finx ?_; try with_reducible rfl)
    try rfl

end Go.Proofs.Ytkienchmbfhigaa
