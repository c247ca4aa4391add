/- Functions of the seat, worked off from their code: chunk rs5. Written by program (tools/mkp.py) from wip/fn. -/
import Derived.Test.YtmckiigefkfpaaaDoorSimT
import Derived.Test.YtmckiigefkfpaaaDoorSimY
import Derived.Test.YtmckiigefkfpaaaDoorPrs3
import Derived.Test.YtmckiigefkfpaaaDoorPrs4
set_option maxRecDepth 100000
set_option maxHeartbeats 40000000
set_option linter.unusedSimpArgs false
set_option linter.unusedVariables false
namespace Go.Proofs.YtmckiigefkfpaaaDoor
open Go Go.Sim
attribute [local irreducible] chk brX hX finH keyX visit packed backPk backOk backHeap stays getAll getX strX setX takeX normX fillX lendX partsX opsX callK lentK lentR giveX adoptX resX joinX headX loopX seqK blkK regK finX exOps ex eqT
attribute [local simp] setR_int setR_bool setR_zero setR_succ repl_int repl_bool List.getElem?_cons_zero List.getElem?_cons_succ List.getElem?_nil w_i64 w_u64 w_u8 bAnd_u8 bOr_u8 bXor_u8 bAndNot_u8 bShl_u8 wrap_u8_range all_plain_int all_plain_bool all_plain_app pl_bool pl_int pl_str pl_nilp pl_nsl pl_nilI pl_nilF take_map_len AV.cells TI.isAgg
attribute [local simp] Do.flen Do.rd Do.g0 Do.g1 Do.g2 Do.put Do.pute Do.s0 Do.s1 Do.s2 Do.zero Do.enc

/-- Both stores as they are: the list; what is pinned; the row behind the keys; stamps. -/
inductive Pl where
  | no (pin : Int) (pinned : Bool) (g nx : Nat)
  | yes (l : List (Int × ByteArray)) (cs : List AV) (pin : Int) (pinned : Bool) (g g2 nx : Nat)
def Pl.ok (j : Nat) : Pl → Prop
  | .no .. => True
  | .yes l cs _ _ _ _ _ => okC l cs ∧ (l.map (·.1)).Nodup ∧ l.length ≤ j
def Pl.st (most : Int) (ds : List Do) (j : Nat) : Pl → St
  | .no pin pinned g nx => ⟨[(1, .isl 3 ds.length (flat Do.enc ds)), (5, .bool true), (6, .ref 27400000 (0, 1) 0), (8, .ref 66 (0, 1 + 1) 0), (9, .int .i64 (j : Nat))],
      [(66, ⟨(0, 1 + 1), [.int .i64 most, .nsl, .nsl, .bool pinned, .int .i64 pin]⟩), (27400000, ⟨(0, 1), [.int .i64 most, .mref 27400001500001 (0, g), .nsl, .int .i64 pin, .bool pinned]⟩),
       (27400001500001, ⟨(0, g), [.mapd [] []]⟩)], nx, 0⟩
  | .yes l cs pin pinned g g2 nx => ⟨[(1, .isl 3 ds.length (flat Do.enc ds)), (5, .bool true), (6, .ref 27400000 (0, 1) 0), (8, .ref 66 (0, 1 + 1) 0), (9, .int .i64 (j : Nat))],
      [(66, ⟨(0, 1 + 1), [.int .i64 most, .msl 67000001 (0, g2) 1 0 l.length, .msl 67000002 (0, g2) 1 0 l.length, .bool pinned, .int .i64 pin]⟩), (27400000, ⟨(0, 1), [.int .i64 most, .mref 27400001500001 (0, g), .msl 27400001000002 (0, g) 1 0 l.length, .int .i64 pin, .bool pinned]⟩),
       (27400001500001, ⟨(0, g), [.mapd (l.map fun p => .int .i64 p.1) (l.map fun p => .str p.2)]⟩), (27400001000002, ⟨(0, g), cs⟩), (67000001, ⟨(0, g2), l.map fun p => .int .i64 p.1⟩), (67000002, ⟨(0, g2), l.map fun p => .str p.2⟩)], nx, 0⟩
theorem take_ki {β : Type} (l : List (Int × β)) : List.take l.length (l.map fun p => (.int .i64 p.1 : AV)) = l.map fun p => .int .i64 p.1 := List.take_of_length_le (by simp)
theorem putL_len' (l : List (Int × ByteArray)) (k : Int) (v : ByteArray) : (putL l k v).length ≤ l.length + 1 := by
  have := List.length_filter_le (fun p => !decide (p.1 = k)) l
  simp only [putL, List.length_append, List.length_singleton]; omega
theorem plays_ok (most : Int) (ds : List Do) (hn : ds.length ≤ 9223372036854775807) : callω L T 6 0 [.int .i64 most, .isl 3 ds.length (flat Do.enc ds)] [none, none] = some (.bool true, [none, none]) := by
  rw [call_ex (show T 6 = some (.code a6) from rfl) rfl rfl]
  by_cases h1 : most < 1
  · (have c1 := fun x1 => first_ok x1; have c2 := fun x1 => new_out x1 most (.inl h1); have c3 := fun x1 => is_ok x1; refine gox ?_; clear c1 c2 c3)
    (refine finx ?_; try with_reducible rfl)
    try rfl
  · by_cases h2 : 800 < most
    · (have c1 := fun x1 => first_ok x1; have c2 := fun x1 => new_out x1 most (.inr h2); have c3 := fun x1 => is_ok x1; refine gox ?_; clear c1 c2 c3)
      (refine finx ?_; try with_reducible rfl)
      try rfl
    · have hL := fun tag => light_ok tag ds hn
      cases hb : (decide (ds.length ≤ 80) && decide (accD ds ds.length ≤ 2000)) with
      | false =>
        rw [hb] at hL
        (have c1 := fun x1 => first_ok x1; have c2 := fun x1 => new_iS x1 most (by omega) (by omega); have c3 := fun x1 => hL x1; refine gox ?_; clear c1 c2 c3)
        (refine finx ?_; try with_reducible rfl)
        try rfl
      | true =>
        rw [hb] at hL
        have h80 : ds.length ≤ 80 := by
          rw [Bool.and_eq_true, decide_eq_true_eq] at hb
          exact hb.1
        (have c1 := fun x1 => first_ok x1; have c2 := fun x1 => new_iS x1 most (by omega) (by omega); have c3 := fun x1 => hL x1; refine gox ?_; clear c1 c2 c3)
        refine Eq.trans (headX_atX (X := Pl) Pl.ok (Pl.st most ds) ds.length (fun _ _ => some (.bool true, [none, none])) ?_ ?_ 0 (by omega) (.no 0 false _ _) trivial) rfl
        · intro j x hj hok ih
          have hw : IntKind.i64.wrap ((j : Int) + 1) = ((j + 1 : Nat) : Int) := by rw [wrap_succ hj (by omega)]
          have hfl := Do.flen ds
          have hrd := Do.rd hj
          have hj' : (j : Int) < (ds.length : Int) := by omega
          generalize ds[j] = d at hrd
          obtain ⟨kd, k, v⟩ := d
          simp only at hrd
          cases x with
          | no pin pinned g nx =>
            simp only [Pl.st]
            have bs : (ByteArray.empty.toList == ByteArray.empty.toList) = true := beq_self_eq_true _
            have z1 := fun tag => lenC most [(k, v)] pin pinned _ (putN_okC k v) (by simp) tag
            have z2 := fun tag => keysC most [(k, v)] pin pinned _ (putN_okC k v) (by simp) tag
            have z3 := fun tag => sameC tag [(k, v)] (by simp)
            simp only [List.map_cons, List.map_nil, List.length_cons, List.length_nil, Nat.zero_add] at z1 z2 z3
            by_cases k1 : kd = 1
            · (have fA := And.intro @hrd (And.intro @hfl @hw); have c1 := fun x1 => scloneN_iS x1 most pin pinned; have c2 := fun x1 => lenC_iS x1 most [] pin pinned; have c3 := fun x1 => putN_iS x1 most pin pinned k v (by omega); have c4 := fun x1 => putN_r x1 most pin pinned k v (by omega); have c5 := fun x1 => z1 x1; have c6 := fun x1 => z2 x1; have c7 := fun x1 => z3 x1; refine gox ?_; clear fA c1 c2 c3 c4 c5 c6 c7)
              have ih' := fun g g2 nx => ih (.yes [(k, v)] [.int .i64 k] pin pinned g g2 nx) ⟨putN_okC k v, by simp, by simp⟩
              simp only [Pl.st] at ih'
              exact Eq.trans (head_eq (by rw [hw]) rfl rfl) (ih' _ _ _)
            · by_cases k2 : kd = 2
              · (have fA := And.intro @hrd (And.intro @hfl @hw); have c1 := fun x1 => scloneN_iS x1 most pin pinned; have c2 := fun x1 => lenC_iS x1 most [] pin pinned; have c3 := fun x1 => getN_iS x1 most pin pinned k; have c4 := fun x1 => getN_r x1 most pin pinned k; have c5 := fun x1 => lenN_iS x1 most pin pinned; have c6 := fun x1 => keysN_iS x1 most pin pinned; have c7 := fun x1 => r_SameN x1; refine gox ?_; clear fA c1 c2 c3 c4 c5 c6 c7)
                have ih' := fun g nx => ih (.no pin pinned g nx) trivial
                simp only [Pl.st] at ih'
                exact Eq.trans (head_eq (by rw [hw]) rfl rfl) (ih' _ _)
              · by_cases k3 : kd = 3
                · (have fA := And.intro @hrd (And.intro @hfl @hw); have c1 := fun x1 => scloneN_iS x1 most pin pinned; have c2 := fun x1 => lenC_iS x1 most [] pin pinned; have c3 := fun x1 => pinN_iS x1 most pin pinned k; have c4 := fun x1 => lenN_iS x1 most k true; have c5 := fun x1 => keysN_iS x1 most k true; have c6 := fun x1 => r_SameN x1; refine gox ?_; clear fA c1 c2 c3 c4 c5 c6)
                  have ih' := fun g nx => ih (.no k true g nx) trivial
                  simp only [Pl.st] at ih'
                  exact Eq.trans (head_eq (by rw [hw]) rfl rfl) (ih' _ _)
                · (have fA := And.intro @hrd (And.intro @hfl @hw); have c1 := fun x1 => scloneN_iS x1 most pin pinned; have c2 := fun x1 => lenC_iS x1 most [] pin pinned; have c3 := fun x1 => freeN_iS x1 most pin pinned; have c4 := fun x1 => lenN_iS x1 most pin false; have c5 := fun x1 => keysN_iS x1 most pin false; have c6 := fun x1 => r_SameN x1; refine gox ?_; clear fA c1 c2 c3 c4 c5 c6)
                  have ih' := fun g nx => ih (.no pin false g nx) trivial
                  simp only [Pl.st] at ih'
                  exact Eq.trans (head_eq (by rw [hw]) rfl rfl) (ih' _ _)
          | yes l cs pin pinned g g2 nx =>
            obtain ⟨hc, hd, hln⟩ := hok
            have hsh := okC_shut hc
            have hn5 : l.length ≤ 100000 := by omega
            simp only [Pl.st]
            by_cases k1 : kd = 1
            · have hpl := putL_len' l k v
              by_cases hle : ((putL l k v).length : Int) ≤ most
              · obtain ⟨cs2, hc2, hp⟩ := putC_stay most l pin pinned cs hc hn5 k v hd hle
                have hr := fun tag => put_r tag most l pin pinned k v (by omega) hd
                simp only [if_pos hle] at hr
                have hd2 := putL_nodup l k v hd
                generalize putL l k v = L2 at hpl hle hc2 hp hr hd2
                have hsh2 := okC_shut hc2
                have hn6 : L2.length ≤ 100000 := by omega
                (have fA := And.intro @hrd (And.intro @hfl (And.intro @hw (And.intro @hsh (And.intro @hsh2 (And.intro @shut_ki (And.intro @shut_vs @take_ki)))))); have c1 := fun x1 => cloneC most l pin pinned cs hc hn5 x1; have c2 := fun x1 => lenC_iS x1 most l pin pinned; have c3 := fun x1 => hp x1; have c4 := fun x1 => hr x1; have c5 := fun x1 => lenC most L2 pin pinned cs2 hc2 hn6 x1; have c6 := fun x1 => keysC most L2 pin pinned cs2 hc2 hn6 x1; have c7 := fun x1 => sameC x1 L2 (by omega); refine gox ?_; clear fA c1 c2 c3 c4 c5 c6 c7)
                have ih' := fun g g2 nx => ih (.yes L2 cs2 pin pinned g g2 nx) ⟨hc2, hd2, by omega⟩
                simp only [Pl.st] at ih'
                exact Eq.trans (head_eq (by rw [hw]) rfl rfl) (ih' _ _ _)
              · obtain ⟨cs2, hc2, hp⟩ := putC_go most l pin pinned cs hc hn5 k v hd hle
                have hr := fun tag => put_r tag most l pin pinned k v (by omega) hd
                simp only [if_neg hle] at hr
                have hd2 := filter_nodup _ (fun x => !decide (x.1 = vic k pin pinned (putL l k v))) (putL_nodup l k v hd)
                change ((dropL (putL l k v) (vic k pin pinned (putL l k v))).map (·.1)).Nodup at hd2
                have hdl : (dropL (putL l k v) (vic k pin pinned (putL l k v))).length ≤ (putL l k v).length := List.length_filter_le _ _
                generalize vic k pin pinned (putL l k v) = u at hc2 hp hr hd2 hdl
                generalize dropL (putL l k v) u = L2 at hc2 hp hr hd2 hdl
                have bu : (u == u) = true := beq_self_eq_true _
                have hsh2 := okC_shut hc2
                have hn6 : L2.length ≤ 100000 := by omega
                (have fA := And.intro @hrd (And.intro @hfl (And.intro @hw (And.intro @hsh (And.intro @hsh2 (And.intro @shut_ki (And.intro @shut_vs @take_ki)))))); have c1 := fun x1 => cloneC most l pin pinned cs hc hn5 x1; have c2 := fun x1 => lenC_iS x1 most l pin pinned; have c3 := fun x1 => hp x1; have c4 := fun x1 => hr x1; have c5 := fun x1 => lenC most L2 pin pinned cs2 hc2 hn6 x1; have c6 := fun x1 => keysC most L2 pin pinned cs2 hc2 hn6 x1; have c7 := fun x1 => sameC x1 L2 (by omega); refine gox ?_; clear fA c1 c2 c3 c4 c5 c6 c7)
                have ih' := fun g g2 nx => ih (.yes L2 cs2 pin pinned g g2 nx) ⟨hc2, hd2, by omega⟩
                simp only [Pl.st] at ih'
                exact Eq.trans (head_eq (by rw [hw]) rfl rfl) (ih' _ _ _)
            · by_cases k2 : kd = 2
              · have h3 := fun tag => getC most l pin pinned cs hc hn5 tag k
                have h4 := fun tag => get_r tag most l pin pinned k (by omega)
                cases hf : l.find? fun p => decide (p.1 = k) with
                | none =>
                  simp only [hf] at h3 h4
                  have bs : (ByteArray.empty.toList == ByteArray.empty.toList) = true := beq_self_eq_true _
                  (have fA := And.intro @hrd (And.intro @hfl (And.intro @hw (And.intro @hsh (And.intro @shut_ki (And.intro @shut_vs @take_ki))))); have c1 := fun x1 => cloneC most l pin pinned cs hc hn5 x1; have c2 := fun x1 => lenC_iS x1 most l pin pinned; have c3 := fun x1 => h3 x1; have c4 := fun x1 => h4 x1; have c5 := fun x1 => lenC most l pin pinned cs hc hn5 x1; have c6 := fun x1 => keysC most l pin pinned cs hc hn5 x1; have c7 := fun x1 => sameC x1 l (by omega); refine gox ?_; clear fA c1 c2 c3 c4 c5 c6 c7)
                  have ih' := fun g g2 nx => ih (.yes l cs pin pinned g g2 nx) ⟨hc, hd, by omega⟩
                  simp only [Pl.st] at ih'
                  exact Eq.trans (head_eq (by rw [hw]) rfl rfl) (ih' _ _ _)
                | some q =>
                  simp only [hf] at h3 h4
                  have bs : (q.2.toList == q.2.toList) = true := beq_self_eq_true _
                  (have fA := And.intro @hrd (And.intro @hfl (And.intro @hw (And.intro @hsh (And.intro @shut_ki (And.intro @shut_vs @take_ki))))); have c1 := fun x1 => cloneC most l pin pinned cs hc hn5 x1; have c2 := fun x1 => lenC_iS x1 most l pin pinned; have c3 := fun x1 => h3 x1; have c4 := fun x1 => h4 x1; have c5 := fun x1 => lenC most l pin pinned cs hc hn5 x1; have c6 := fun x1 => keysC most l pin pinned cs hc hn5 x1; have c7 := fun x1 => sameC x1 l (by omega); refine gox ?_; clear fA c1 c2 c3 c4 c5 c6 c7)
                  have ih' := fun g g2 nx => ih (.yes l cs pin pinned g g2 nx) ⟨hc, hd, by omega⟩
                  simp only [Pl.st] at ih'
                  exact Eq.trans (head_eq (by rw [hw]) rfl rfl) (ih' _ _ _)
              · by_cases k3 : kd = 3
                · (have fA := And.intro @hrd (And.intro @hfl (And.intro @hw (And.intro @hsh (And.intro @shut_ki (And.intro @shut_vs @take_ki))))); have c1 := fun x1 => cloneC most l pin pinned cs hc hn5 x1; have c2 := fun x1 => lenC_iS x1 most l pin pinned; have c3 := fun x1 => pinC most l pin pinned cs hc hn5 x1 k; have c4 := fun x1 => lenC most l k true cs hc hn5 x1; have c5 := fun x1 => keysC most l k true cs hc hn5 x1; have c6 := fun x1 => sameC x1 l (by omega); refine gox ?_; clear fA c1 c2 c3 c4 c5 c6)
                  have ih' := fun g g2 nx => ih (.yes l cs k true g g2 nx) ⟨hc, hd, by omega⟩
                  simp only [Pl.st] at ih'
                  exact Eq.trans (head_eq (by rw [hw]) rfl rfl) (ih' _ _ _)
                · (have fA := And.intro @hrd (And.intro @hfl (And.intro @hw (And.intro @hsh (And.intro @shut_ki (And.intro @shut_vs @take_ki))))); have c1 := fun x1 => cloneC most l pin pinned cs hc hn5 x1; have c2 := fun x1 => lenC_iS x1 most l pin pinned; have c3 := fun x1 => freeC most l pin pinned cs hc hn5 x1; have c4 := fun x1 => lenC most l pin false cs hc hn5 x1; have c5 := fun x1 => keysC most l pin false cs hc hn5 x1; have c6 := fun x1 => sameC x1 l (by omega); refine gox ?_; clear fA c1 c2 c3 c4 c5 c6)
                  have ih' := fun g g2 nx => ih (.yes l cs pin false g g2 nx) ⟨hc, hd, by omega⟩
                  simp only [Pl.st] at ih'
                  exact Eq.trans (head_eq (by rw [hw]) rfl rfl) (ih' _ _ _)
        · intro x hx
          cases x with
          | no pin pinned g nx =>
            simp only [Pl.st]
            (refine gox ?_)
            (refine finx ?_; try with_reducible rfl)
            try rfl
          | yes l cs pin pinned g g2 nx =>
            simp only [Pl.st]
            (refine gox ?_)
            (refine finx ?_; try with_reducible rfl)
            try rfl

end Go.Proofs.YtmckiigefkfpaaaDoor
