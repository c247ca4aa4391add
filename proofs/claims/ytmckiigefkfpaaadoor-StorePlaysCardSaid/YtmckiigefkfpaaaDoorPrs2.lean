/- Functions of the seat, worked off from their code: chunk rs2. Written by program (tools/mkp.py) from wip/fn. -/
import Derived.Test.YtmckiigefkfpaaaDoorSimT
import Derived.Test.YtmckiigefkfpaaaDoorSimY
import Derived.Test.YtmckiigefkfpaaaDoorPst0
import Derived.Test.YtmckiigefkfpaaaDoorPrs1
set_option maxRecDepth 100000
set_option maxHeartbeats 40000000
set_option linter.unusedSimpArgs false
set_option linter.unusedVariables false
namespace Go.Proofs.YtmckiigefkfpaaaDoor
open Go Go.Sim
attribute [local irreducible] chk brX hX finH keyX visit packed backPk backOk backHeap stays getAll getX strX setX takeX normX fillX lendX partsX opsX callK lentK lentR giveX adoptX resX joinX headX loopX seqK blkK regK finX exOps ex eqT
attribute [local simp] setR_int setR_bool setR_zero setR_succ repl_int repl_bool List.getElem?_cons_zero List.getElem?_cons_succ List.getElem?_nil w_i64 w_u64 w_u8 bAnd_u8 bOr_u8 bXor_u8 bAndNot_u8 bShl_u8 wrap_u8_range all_plain_int all_plain_bool all_plain_app pl_bool pl_int pl_str pl_nilp pl_nsl pl_nilI pl_nilF take_map_len AV.cells TI.isAgg
/-- Which of those ahead of the last one goes; as many as there are: none of them. -/
def og (pin : Int) (pinned : Bool) : List (Int × ByteArray) → Nat
  | [] => 0
  | p :: l => if pinned && decide (p.1 = pin) then og pin pinned l + 1 else 0
theorem og_le (pin : Int) (pinned : Bool) : ∀ l, og pin pinned l ≤ l.length
  | [] => Nat.le_refl _
  | p :: l => by
    have := og_le pin pinned l
    simp only [og, List.length_cons]
    split <;> omega
theorem og_vic (pin : Int) (pinned : Bool) (k : Int) (v : ByteArray) : ∀ (l : List (Int × ByteArray)), (∀ p ∈ l, p.1 ≠ k) → ∃ h : og pin pinned l < (l ++ [(k, v)]).length, (l ++ [(k, v)])[og pin pinned l].1 = vic k pin pinned (l ++ [(k, v)])
  | [], _ => ⟨by simp [og], by simp [og, vic]⟩
  | p :: l, hk => by
    obtain ⟨h1, h2⟩ := og_vic pin pinned k v l fun q hq => hk q (List.mem_cons_of_mem _ hq)
    have hp := hk p List.mem_cons_self
    by_cases hc : pinned = true ∧ p.1 = pin
    · have e : og pin pinned (p :: l) = og pin pinned l + 1 := by simp [og, hc.1, hc.2]
      refine ⟨by rw [e]; simp at h1 ⊢; omega, ?_⟩
      simp only [e, List.cons_append, List.getElem_cons_succ, h2]
      rw [vic, if_neg]
      rintro ⟨_, h⟩; exact h hc
    · have e : og pin pinned (p :: l) = 0 := by
        simp only [og]
        rw [if_neg]
        simpa using hc
      refine ⟨by rw [e]; simp, ?_⟩
      simp only [e, List.cons_append, List.getElem_cons_zero]
      rw [vic, if_pos ⟨hp, hc⟩]
theorem og_vic2 (pin : Int) (pinned : Bool) (k : Int) (v : ByteArray) (l l1 : List (Int × ByteArray)) (e : l1 = l ++ [(k, v)]) (hk : ∀ p ∈ l, p.1 ≠ k) : ∃ h : og pin pinned l < l1.length, l1[og pin pinned l].1 = vic k pin pinned l1 := by
  subst e; exact og_vic pin pinned k v l hk
theorem dropL_erase : ∀ (l : List (Int × ByteArray)) (i : Nat) (h : i < l.length), (l.map (·.1)).Nodup → dropL l l[i].1 = l.eraseIdx i
  | p :: l, 0, _, hd => by
    simp only [List.map_cons, List.nodup_cons] at hd
    simp only [dropL, List.getElem_cons_zero, List.eraseIdx_cons_zero]
    rw [List.filter_cons_of_neg (by simp)]
    exact List.filter_eq_self.2 fun q hq => by
      have : q.1 ≠ p.1 := fun e => hd.1 (e ▸ List.mem_map_of_mem hq)
      simpa using this
  | p :: l, i + 1, h, hd => by
    simp only [List.map_cons, List.nodup_cons] at hd
    have ih := dropL_erase l i (by simpa using h) hd.2
    have hne : ¬ p.1 = (l[i]'(by simpa using h)).1 := fun e => hd.1 (e ▸ List.mem_map_of_mem (List.getElem_mem _))
    simp only [List.getElem_cons_succ, List.eraseIdx_cons_succ, ← ih]
    rw [dropL, List.filter_cons_of_pos (by simpa using hne)]
    rfl
theorem og_step (pin : Int) (pinned : Bool) (l : List (Int × ByteArray)) (i : Nat) (h : i < l.length) : i + og pin pinned (l.drop i) = if pinned && decide (l[i].1 = pin) then (i + 1) + og pin pinned (l.drop (i + 1)) else i := by
  rw [List.drop_eq_getElem_cons h, og]
  split <;> omega
theorem putN_r (tag : Nat) (most : Int) (pin : Int) (pinned : Bool) (k : Int) (v : ByteArray) (hm : 1 ≤ most) :
    callH L T 33 tag [.ref 0 (tag, 0) 0, .int .i64 k, .str v] [hb 0 [.int .i64 most, .nsl, .nsl, .bool pinned, .int .i64 pin]] =
     some (.tup [.int .i64 0, .bool false], [hb 0 [.int .i64 most, .msl 1000001 (tag, 0) 1 0 1, .msl 1000002 (tag, 0) 1 0 1, .bool pinned, .int .i64 pin], hb 1000001 [.int .i64 k], hb 1000002 [.str v]]) := by
  refine (call_exh2 (show T (33 + 1000000000) = some (.hcode a33) from rfl) rfl (by simp only [argEnv, Nat.reduceAdd]; apply Eq.refl) (by simp only [hb, hHeap]; apply Eq.refl)).trans ?_
  (have c1 := fun x1 => findN_r x1 most pin pinned k; refine gox ?_; clear c1)
  (refine finhx ?_; try with_reducible rfl)
  try rfl
theorem put_r (tag : Nat) (most : Int) (l : List (Int × ByteArray)) (pin : Int) (pinned : Bool) (k : Int) (v : ByteArray) (hn : l.length < 100000) (hd : (l.map (·.1)).Nodup) :
    callH L T 33 tag [.ref 0 (tag, 0) 0, .int .i64 k, .str v] [hb 0 [.int .i64 most, .msl 1000001 (tag, 0) 1 0 l.length, .msl 1000002 (tag, 0) 1 0 l.length, .bool pinned, .int .i64 pin], hb 1000001 (l.map fun p => .int .i64 p.1), hb 1000002 (l.map fun p => .str p.2)] =
     some (if ((putL l k v).length : Int) ≤ most then (.tup [.int .i64 0, .bool false], [hb 0 [.int .i64 most, .msl 1000001 (tag, 0) 1 0 (putL l k v).length, .msl 1000002 (tag, 0) 1 0 (putL l k v).length, .bool pinned, .int .i64 pin], hb 1000001 ((putL l k v).map fun p => .int .i64 p.1), hb 1000002 ((putL l k v).map fun p => .str p.2)])
      else (.tup [.int .i64 (vic k pin pinned (putL l k v)), .bool true], [hb 0 [.int .i64 most, .msl 1000001 (tag, 0) 1 0 (dropL (putL l k v) (vic k pin pinned (putL l k v))).length, .msl 1000002 (tag, 0) 1 0 (dropL (putL l k v) (vic k pin pinned (putL l k v))).length, .bool pinned, .int .i64 pin], hb 1000001 ((dropL (putL l k v) (vic k pin pinned (putL l k v))).map fun p => .int .i64 p.1), hb 1000002 ((dropL (putL l k v) (vic k pin pinned (putL l k v))).map fun p => .str p.2)])) := by
  refine (call_exh2 (show T (33 + 1000000000) = some (.hcode a33) from rfl) rfl (by simp only [argEnv, Nat.reduceAdd]; apply Eq.refl) (by simp only [hb, hHeap]; apply Eq.refl)).trans ?_
  by_cases hm : ixF (fun p : Int × ByteArray => decide (p.1 = k)) 0 l = -1
  · have hx' : ¬ 0 ≤ ixF (fun p : Int × ByteArray => decide (p.1 = k)) 0 l := by rw [hm]; simp
    have e0 : putL l k v = l ++ [(k, v)] := by rw [putL, ix_none l 0 hm]
    have hap : List.map (fun p : Int × ByteArray => (.int .i64 p.1 : AV)) l ++ [.int .i64 k] = List.map (fun p : Int × ByteArray => (.int .i64 p.1 : AV)) (putL l k v) := by rw [e0]; simp
    have hap2 : List.map (fun p : Int × ByteArray => (.str p.2 : AV)) l ++ [.str v] = List.map (fun p : Int × ByteArray => (.str p.2 : AV)) (putL l k v) := by rw [e0]; simp
    have hl2 : (putL l k v).length = l.length + 1 := by rw [e0]; simp
    have ht1 : List.take l.length (l.map fun p => (.int .i64 p.1 : AV)) = l.map fun p => .int .i64 p.1 := List.take_of_length_le (by simp)
    have ht2 : List.take l.length (l.map fun p => (.str p.2 : AV)) = l.map fun p => .str p.2 := List.take_of_length_le (by simp)
    have hr1 : repl 1 [(.int .i64 0 : AV)] = [.int .i64 0] := rfl
    have hr2 : repl 1 [(.str ByteArray.empty : AV)] = [.str ByteArray.empty] := rfl
    have hln : l.length < 100001 := by omega
    have hk0 : ∀ p ∈ l, p.1 ≠ k := fun p hp => by
      have := ix_none l 0 hm
      rw [← this] at hp
      simpa using (List.mem_filter.1 hp).2
    obtain ⟨o1, o2⟩ := og_vic2 pin pinned k v l _ e0 hk0
    have hd2 := putL_nodup l k v hd
    by_cases hle : ((putL l k v).length : Int) ≤ most
    · rw [if_pos hle]
      (have fA := And.intro @shut_ki (And.intro @shut_vs (And.intro @hr1 (And.intro @hr2 (And.intro @ht1 (And.intro @ht2 (And.intro @hap (And.intro @hap2 @hl2.symm))))))); have c1 := fun x1 => find_r x1 most l pin pinned k (by omega); refine gox ?_; clear fA c1)
      (have fA := And.intro @shut_ki @shut_vs; refine finhx ?_; clear fA; try with_reducible rfl)
      rfl
    · rw [if_neg hle]
      (have fA := And.intro @shut_ki (And.intro @shut_vs (And.intro @hr1 (And.intro @hr2 (And.intro @ht1 (And.intro @ht2 (And.intro @hap (And.intro @hap2 @hl2.symm))))))); have c1 := fun x1 => find_r x1 most l pin pinned k (by omega); refine gox ?_; clear fA c1)
      have w1 : IntKind.i64.wrap (((putL l k v).length : Int) - 1) = ((l.length - 0 + og pin pinned (l.drop (l.length - 0)) : Nat) : Int) := by
        rw [w_i64 (by omega) (by omega), Nat.sub_zero, List.drop_length, og]; omega
      have w2 : IntKind.i64.wrap (((putL l k v).length : Int) - 2) = ((l.length - 0 : Nat) : Int) - 1 := by rw [w_i64 (by omega) (by omega)]; omega
      refine Eq.trans (head_eq (by rw [w1, w2]) rfl rfl) ?_
      refine Eq.trans (headX_atX (X := Nat) (fun _ _ => True) (fun j nx => ⟨[(0, .ref 0 (tag, 0) 0), (9, .int .i64 ((l.length - j + og pin pinned (l.drop (l.length - j)) : Nat) : Int)), (10, .int .i64 (((l.length - j : Nat) : Int) - 1))],
        [(0, ⟨(tag, 0), [.int .i64 most, .msl 1000001 (tag, 1 + 1 + 1 + 1) 1 0 (putL l k v).length, .msl 1000002 (tag, 1 + 1 + 1 + 1 + 1 + 1 + 1) 1 0 (putL l k v).length, .bool pinned, .int .i64 pin]⟩), (1000001, ⟨(tag, 1 + 1 + 1 + 1), (putL l k v).map fun p => .int .i64 p.1⟩), (1000002, ⟨(tag, 1 + 1 + 1 + 1 + 1 + 1 + 1), (putL l k v).map fun p => .str p.2⟩)], nx, tag⟩) l.length
        (fun _ _ => some (.tup [.int .i64 (vic k pin pinned (putL l k v)), .bool true], [hb 0 [.int .i64 most, .msl 1000001 (tag, 0) 1 0 (dropL (putL l k v) (vic k pin pinned (putL l k v))).length, .msl 1000002 (tag, 0) 1 0 (dropL (putL l k v) (vic k pin pinned (putL l k v))).length, .bool pinned, .int .i64 pin], hb 1000001 ((dropL (putL l k v) (vic k pin pinned (putL l k v))).map fun p => .int .i64 p.1), hb 1000002 ((dropL (putL l k v) (vic k pin pinned (putL l k v))).map fun p => .str p.2)])) ?_ ?_ 0 (by omega) _ trivial) rfl
      · intro j nx hj _ ih
        have hq : ((l.length - j : Nat) : Int) - 1 = ((l.length - (j + 1) : Nat) : Int) := by omega
        have hql : l.length - (j + 1) < l.length := by omega
        have hst := og_step pin pinned l (l.length - (j + 1)) hql
        rw [show l.length - (j + 1) + 1 = l.length - j by omega] at hst
        have hw : IntKind.i64.wrap (((l.length - (j + 1) : Nat) : Int) - 1) = ((l.length - (j + 1) : Nat) : Int) - 1 := w_i64 (by omega) (by omega)
        have ih' := ih nx trivial
        rw [hq]
        rw [hst] at ih'
        have hx : ((putL l k v).map fun p => (.int .i64 p.1 : AV))[l.length - (j + 1)]? = some (.int .i64 l[l.length - (j + 1)].1) := by
          have : (putL l k v)[l.length - (j + 1)]? = some l[l.length - (j + 1)] := by
            rw [e0, List.getElem?_append_left hql, List.getElem?_eq_getElem hql]
          simp [this]
        generalize l[l.length - (j + 1)].1 = y at hx ih'
        generalize hz : l.length - (j + 1) = z at hx ih' hw hql
        have hz2 : (z : Int) < ((putL l k v).length : Int) := by omega
        have hz3 : z < (putL l k v).length := by omega
        cases hpn : pinned with
        | false =>
          rw [hpn] at ih' 
          have b1 : (!false) = true := rfl
          simp only [Bool.false_and, Bool.false_eq_true, if_false] at ih'
          (have fA := And.intro @hx @hw; refine gox ?_; clear fA)
          exact Eq.trans (head_eq (by rw [hw]) rfl rfl) ih'
        | true =>
          rw [hpn] at ih'
          have b1 : (!true) = false := rfl
          by_cases q3 : y = pin
          · have b3 : (y == pin) = true := by simpa using q3
            simp only [decide_eq_true q3, Bool.and_self, if_true] at ih'
            (have fA := And.intro @hx @hw; refine gox ?_; clear fA)
            exact Eq.trans (head_eq (by rw [hw]) rfl rfl) ih'
          · have b3 : (y == pin) = false := by simpa using q3
            simp only [decide_eq_false q3, Bool.and_false, Bool.false_eq_true, if_false] at ih'
            (have fA := And.intro @hx @hw; refine gox ?_; clear fA)
            exact Eq.trans (head_eq (by rw [hw]) rfl rfl) ih'
      · intro nx _
        have e9 : l.length - l.length + og pin pinned (l.drop (l.length - l.length)) = og pin pinned l := by simp
        have e10 : ((l.length - l.length : Nat) : Int) - 1 = -1 := by omega
        have hx : ((putL l k v).map fun p => (.int .i64 p.1 : AV))[og pin pinned l]? = some (.int .i64 (vic k pin pinned (putL l k v))) := by
          rw [← o2, List.getElem?_map, List.getElem?_eq_getElem o1]; rfl
        have dr := fun tag => drop_r tag most (putL l k v) pin pinned (og pin pinned l) o1 (by omega)
        have de := dropL_erase (putL l k v) (og pin pinned l) o1 hd2
        rw [o2] at de
        simp only [← de] at dr
        simp only [e9, e10]
        have hz : ((og pin pinned l : Nat) : Int) < ((putL l k v).length : Int) := by omega
        (have fA := And.intro @hx (And.intro @shut_ki @shut_vs); have c1 := fun x1 => dr x1; refine gox ?_; clear fA c1)
        (have fA := And.intro @shut_ki @shut_vs; refine finhx ?_; clear fA; try with_reducible rfl)
        rfl
  · obtain ⟨i, hi, h1, h2, h3⟩ := ix_some l 0 hm
    simp only [Nat.zero_add] at h1
    have hx' : 0 ≤ ixF (fun p : Int × ByteArray => decide (p.1 = k)) 0 l := by rw [h1]; omega
    have h4 : l[i].1 = k := by simpa using h2
    have e00 : dropL l k = l.eraseIdx i := by rw [← h4]; exact dropL_erase l i hi hd
    have e0 : putL l k v = l.eraseIdx i ++ [(k, v)] := by rw [← e00]; rfl
    have fi := fun tag => find_r tag most l pin pinned k (by omega)
    simp only [h1] at fi
    have hap : List.map (fun p : Int × ByteArray => (.int .i64 p.1 : AV)) (l.eraseIdx i) ++ [.int .i64 k] = List.map (fun p : Int × ByteArray => (.int .i64 p.1 : AV)) (putL l k v) := by rw [e0]; simp
    have hap2 : List.map (fun p : Int × ByteArray => (.str p.2 : AV)) (l.eraseIdx i) ++ [.str v] = List.map (fun p : Int × ByteArray => (.str p.2 : AV)) (putL l k v) := by rw [e0]; simp
    have hl2 : (putL l k v).length = (l.eraseIdx i).length + 1 := by rw [e0]; simp
    have ht1 : List.take (l.eraseIdx i).length ((l.eraseIdx i).map fun p => (.int .i64 p.1 : AV)) = (l.eraseIdx i).map fun p => .int .i64 p.1 := List.take_of_length_le (by simp)
    have ht2 : List.take (l.eraseIdx i).length ((l.eraseIdx i).map fun p => (.str p.2 : AV)) = (l.eraseIdx i).map fun p => .str p.2 := List.take_of_length_le (by simp)
    have hr1 : repl 1 [(.int .i64 0 : AV)] = [.int .i64 0] := rfl
    have hr2 : repl 1 [(.str ByteArray.empty : AV)] = [.str ByteArray.empty] := rfl
    have hln : (l.eraseIdx i).length < 100001 := by rw [List.length_eraseIdx]; split <;> omega
    have hk0 : ∀ p ∈ (l.eraseIdx i), p.1 ≠ k := fun p hp => by
      rw [← e00] at hp
      simpa using (List.mem_filter.1 hp).2
    obtain ⟨o1, o2⟩ := og_vic2 pin pinned k v (l.eraseIdx i) _ e0 hk0
    have hd2 := putL_nodup l k v hd
    by_cases hle : ((putL l k v).length : Int) ≤ most
    · rw [if_pos hle]
      (have fA := And.intro @shut_ki (And.intro @shut_vs (And.intro @hr1 (And.intro @hr2 (And.intro @ht1 (And.intro @ht2 (And.intro @hap (And.intro @hap2 @hl2.symm))))))); have c1 := fun x1 => fi x1; have c2 := fun x1 => drop_r x1 most l pin pinned i hi (by omega); refine gox ?_; clear fA c1 c2)
      (have fA := And.intro @shut_ki @shut_vs; refine finhx ?_; clear fA; try with_reducible rfl)
      rfl
    · rw [if_neg hle]
      (have fA := And.intro @shut_ki (And.intro @shut_vs (And.intro @hr1 (And.intro @hr2 (And.intro @ht1 (And.intro @ht2 (And.intro @hap (And.intro @hap2 @hl2.symm))))))); have c1 := fun x1 => fi x1; have c2 := fun x1 => drop_r x1 most l pin pinned i hi (by omega); refine gox ?_; clear fA c1 c2)
      have w1 : IntKind.i64.wrap (((putL l k v).length : Int) - 1) = (((l.eraseIdx i).length - 0 + og pin pinned ((l.eraseIdx i).drop ((l.eraseIdx i).length - 0)) : Nat) : Int) := by
        rw [w_i64 (by omega) (by omega), Nat.sub_zero, List.drop_length, og]; omega
      have w2 : IntKind.i64.wrap (((putL l k v).length : Int) - 2) = (((l.eraseIdx i).length - 0 : Nat) : Int) - 1 := by rw [w_i64 (by omega) (by omega)]; omega
      refine Eq.trans (head_eq (by rw [w1, w2]) rfl rfl) ?_
      refine Eq.trans (headX_atX (X := Nat) (fun _ _ => True) (fun j nx => ⟨[(0, .ref 0 (tag, 0) 0), (9, .int .i64 (((l.eraseIdx i).length - j + og pin pinned ((l.eraseIdx i).drop ((l.eraseIdx i).length - j)) : Nat) : Int)), (10, .int .i64 ((((l.eraseIdx i).length - j : Nat) : Int) - 1))],
        [(0, ⟨(tag, 0), [.int .i64 most, .msl 1000001 (tag, 1 + 1 + 1 + 1 + 1) 1 0 (putL l k v).length, .msl 1000002 (tag, 1 + 1 + 1 + 1 + 1 + 1 + 1 + 1) 1 0 (putL l k v).length, .bool pinned, .int .i64 pin]⟩), (1000001, ⟨(tag, 1 + 1 + 1 + 1 + 1), (putL l k v).map fun p => .int .i64 p.1⟩), (1000002, ⟨(tag, 1 + 1 + 1 + 1 + 1 + 1 + 1 + 1), (putL l k v).map fun p => .str p.2⟩)], nx, tag⟩) (l.eraseIdx i).length
        (fun _ _ => some (.tup [.int .i64 (vic k pin pinned (putL l k v)), .bool true], [hb 0 [.int .i64 most, .msl 1000001 (tag, 0) 1 0 (dropL (putL l k v) (vic k pin pinned (putL l k v))).length, .msl 1000002 (tag, 0) 1 0 (dropL (putL l k v) (vic k pin pinned (putL l k v))).length, .bool pinned, .int .i64 pin], hb 1000001 ((dropL (putL l k v) (vic k pin pinned (putL l k v))).map fun p => .int .i64 p.1), hb 1000002 ((dropL (putL l k v) (vic k pin pinned (putL l k v))).map fun p => .str p.2)])) ?_ ?_ 0 (by omega) _ trivial) rfl
      · intro j nx hj _ ih
        have hq : (((l.eraseIdx i).length - j : Nat) : Int) - 1 = (((l.eraseIdx i).length - (j + 1) : Nat) : Int) := by omega
        have hql : (l.eraseIdx i).length - (j + 1) < (l.eraseIdx i).length := by omega
        have hst := og_step pin pinned (l.eraseIdx i) ((l.eraseIdx i).length - (j + 1)) hql
        rw [show (l.eraseIdx i).length - (j + 1) + 1 = (l.eraseIdx i).length - j by omega] at hst
        have hw : IntKind.i64.wrap ((((l.eraseIdx i).length - (j + 1) : Nat) : Int) - 1) = (((l.eraseIdx i).length - (j + 1) : Nat) : Int) - 1 := w_i64 (by omega) (by omega)
        have ih' := ih nx trivial
        rw [hq]
        rw [hst] at ih'
        have hx : ((putL l k v).map fun p => (.int .i64 p.1 : AV))[(l.eraseIdx i).length - (j + 1)]? = some (.int .i64 (l.eraseIdx i)[(l.eraseIdx i).length - (j + 1)].1) := by
          have : (putL l k v)[(l.eraseIdx i).length - (j + 1)]? = some (l.eraseIdx i)[(l.eraseIdx i).length - (j + 1)] := by
            rw [e0, List.getElem?_append_left hql, List.getElem?_eq_getElem hql]
          simp [this]
        generalize (l.eraseIdx i)[(l.eraseIdx i).length - (j + 1)].1 = y at hx ih'
        generalize hz : (l.eraseIdx i).length - (j + 1) = z at hx ih' hw hql
        have hz2 : (z : Int) < ((putL l k v).length : Int) := by omega
        have hz3 : z < (putL l k v).length := by omega
        cases hpn : pinned with
        | false =>
          rw [hpn] at ih' 
          have b1 : (!false) = true := rfl
          simp only [Bool.false_and, Bool.false_eq_true, if_false] at ih'
          (have fA := And.intro @hx @hw; refine gox ?_; clear fA)
          exact Eq.trans (head_eq (by rw [hw]) rfl rfl) ih'
        | true =>
          rw [hpn] at ih'
          have b1 : (!true) = false := rfl
          by_cases q3 : y = pin
          · have b3 : (y == pin) = true := by simpa using q3
            simp only [decide_eq_true q3, Bool.and_self, if_true] at ih'
            (have fA := And.intro @hx @hw; refine gox ?_; clear fA)
            exact Eq.trans (head_eq (by rw [hw]) rfl rfl) ih'
          · have b3 : (y == pin) = false := by simpa using q3
            simp only [decide_eq_false q3, Bool.and_false, Bool.false_eq_true, if_false] at ih'
            (have fA := And.intro @hx @hw; refine gox ?_; clear fA)
            exact Eq.trans (head_eq (by rw [hw]) rfl rfl) ih'
      · intro nx _
        have e9 : (l.eraseIdx i).length - (l.eraseIdx i).length + og pin pinned ((l.eraseIdx i).drop ((l.eraseIdx i).length - (l.eraseIdx i).length)) = og pin pinned (l.eraseIdx i) := by simp
        have e10 : (((l.eraseIdx i).length - (l.eraseIdx i).length : Nat) : Int) - 1 = -1 := by omega
        have hx : ((putL l k v).map fun p => (.int .i64 p.1 : AV))[og pin pinned (l.eraseIdx i)]? = some (.int .i64 (vic k pin pinned (putL l k v))) := by
          rw [← o2, List.getElem?_map, List.getElem?_eq_getElem o1]; rfl
        have dr := fun tag => drop_r tag most (putL l k v) pin pinned (og pin pinned (l.eraseIdx i)) o1 (by omega)
        have de := dropL_erase (putL l k v) (og pin pinned (l.eraseIdx i)) o1 hd2
        rw [o2] at de
        simp only [← de] at dr
        simp only [e9, e10]
        have hz : ((og pin pinned (l.eraseIdx i) : Nat) : Int) < ((putL l k v).length : Int) := by omega
        (have fA := And.intro @hx (And.intro @shut_ki @shut_vs); have c1 := fun x1 => dr x1; refine gox ?_; clear fA c1)
        (have fA := And.intro @shut_ki @shut_vs; refine finhx ?_; clear fA; try with_reducible rfl)
        rfl

end Go.Proofs.YtmckiigefkfpaaaDoor
