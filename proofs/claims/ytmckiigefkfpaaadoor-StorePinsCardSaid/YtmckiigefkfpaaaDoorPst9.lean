/- Functions of the seat, worked off from their code: chunk st9. Written by program (tools/mkp.py) from wip/fn. -/
import Derived.Test.YtmckiigefkfpaaaDoorSimT
import Derived.Test.YtmckiigefkfpaaaDoorSimY
import Derived.Test.YtmckiigefkfpaaaDoorPnum
import Derived.Test.YtmckiigefkfpaaaDoorPst2iB
import Derived.Test.YtmckiigefkfpaaaDoorPst3iB
import Derived.Test.YtmckiigefkfpaaaDoorPst4iB
import Derived.Test.YtmckiigefkfpaaaDoorPst5iB
import Derived.Test.YtmckiigefkfpaaaDoorPst6iB
import Derived.Test.YtmckiigefkfpaaaDoorPst7
set_option maxRecDepth 100000
set_option maxHeartbeats 40000000
set_option linter.unusedSimpArgs false
set_option linter.unusedVariables false
namespace Go.Proofs.YtmckiigefkfpaaaDoor
open Go Go.Sim
attribute [local irreducible] chk brX hX finH keyX visit packed backPk backOk backHeap stays getAll getX strX setX takeX normX fillX lendX partsX opsX callK lentK lentR giveX adoptX resX joinX headX loopX seqK blkK regK finX exOps ex eqT
attribute [local simp] setR_int setR_bool setR_zero setR_succ repl_int repl_bool List.getElem?_cons_zero List.getElem?_cons_succ List.getElem?_nil w_i64 w_u64 w_u8 bAnd_u8 bOr_u8 bXor_u8 bAndNot_u8 bShl_u8 wrap_u8_range all_plain_int all_plain_bool all_plain_app pl_bool pl_int pl_str pl_nilp pl_nsl pl_nilI pl_nilF take_map_len AV.cells TI.isAgg
/-! who goes -/
section
variable {α β : Type} [DecidableEq α]
theorem putL_new (l : List (α × β)) (k : α) (v : β) (h : k ∉ l.map (·.1)) : putL l k v = l ++ [(k, v)] := by
  rw [putL, List.filter_eq_self.2]
  intro p hp
  have : p.1 ≠ k := fun e => h (e ▸ List.mem_map_of_mem hp)
  simpa using this
theorem putL_old (l : List (α × β)) (k : α) (v : β) (h : k ∈ l.map (·.1)) : (putL l k v).length ≤ l.length := by
  obtain ⟨p, hp, e⟩ := List.mem_map.1 h
  have : (l.filter fun p => !decide (p.1 = k)).length < l.length := List.length_filter_lt_length_iff_exists.2 ⟨p, hp, by simp [e]⟩
  simp only [putL, List.length_append, List.length_singleton]
  omega
theorem putL_len (l : List (α × β)) (k : α) (v : β) : (putL l k v).length ≤ l.length + 1 := by
  have := List.length_filter_le (fun p : α × β => !decide (p.1 = k)) l
  simp only [putL, List.length_append, List.length_singleton]
  omega
theorem putL_mem (l : List (α × β)) (k x : α) (v : β) (h : x ∈ l.map (·.1)) : x ∈ (putL l k v).map (·.1) := by
  by_cases e : x = k
  · simp [putL, e]
  · obtain ⟨p, hp, e2⟩ := List.mem_map.1 h
    refine List.mem_map.2 ⟨p, ?_, e2⟩
    simp only [putL, List.mem_append, List.mem_filter]
    exact .inl ⟨hp, by simp [e2, e]⟩
theorem putL_self (l : List (α × β)) (k : α) (v : β) : k ∈ (putL l k v).map (·.1) := by simp [putL]
theorem dropL_mem (l : List (α × β)) (k x : α) (h : x ∈ l.map (·.1)) (hx : x ≠ k) : x ∈ (dropL l k).map (·.1) := by
  obtain ⟨p, hp, e2⟩ := List.mem_map.1 h
  exact List.mem_map.2 ⟨p, List.mem_filter.2 ⟨hp, by simp [e2, hx]⟩, e2⟩
theorem dropL_len (l : List (α × β)) (k : α) (h : k ∈ l.map (·.1)) : (dropL l k).length < l.length := by
  obtain ⟨p, hp, e⟩ := List.mem_map.1 h
  exact List.length_filter_lt_length_iff_exists.2 ⟨p, hp, by simp [e]⟩
theorem find_mem (l : List (α × β)) (k : α) (h : k ∈ l.map (·.1)) : ∃ p, l.find? (fun p => decide (p.1 = k)) = some p := by
  obtain ⟨p, hp, e⟩ := List.mem_map.1 h
  exact Option.isSome_iff_exists.1 (List.find?_isSome.2 ⟨p, hp, by simp [e]⟩)
theorem vic_at (k pin : α) (x : List (α × β)) : ∀ (l : List (α × β)), (∃ a ∈ l.map (·.1), a ≠ k ∧ a ≠ pin) →
    ∃ i : Nat, ∃ h : i < l.length, l[i].1 = vic k pin true (l ++ x) ∧ l[i].1 ≠ k ∧ l[i].1 ≠ pin ∧ ∀ (j : Nat) (hj : j < l.length), j < i → l[j].1 = k ∨ l[j].1 = pin
  | [], h => by obtain ⟨a, ha, _⟩ := h; simp at ha
  | p :: l, h => by
    by_cases hp : p.1 ≠ k ∧ p.1 ≠ pin
    · refine ⟨0, by simp, ?_, hp.1, hp.2, fun j _ hj => by omega⟩
      simp [vic, hp.1, hp.2]
    · have hv : vic k pin true (p :: l ++ x) = vic k pin true (l ++ x) := by
        rw [List.cons_append, vic, if_neg (by simpa using hp)]
      obtain ⟨a, ha, h1, h2⟩ := h
      have ha' : a ∈ l.map (·.1) := by
        rcases List.mem_cons.1 ha with e | e
        · subst e; exact absurd ⟨h1, h2⟩ hp
        · exact e
      obtain ⟨i, hi, e1, e2, e3, e4⟩ := vic_at k pin x l ⟨a, ha', h1, h2⟩
      refine ⟨i + 1, by simpa using hi, by rw [hv]; simpa using e1, by simpa using e2, by simpa using e3, ?_⟩
      intro j hj hji
      cases j with
      | zero =>
        simp only [List.getElem_cons_zero]
        by_cases e : p.1 = k
        · exact .inl e
        · by_cases e' : p.1 = pin
          · exact .inr e'
          · exact absurd ⟨e, e'⟩ hp
      | succ j => simpa using e4 j (by simpa using hj) (by omega)
theorem two_other (l : List α) (pin : α) (hd : l.Nodup) (h : 2 ≤ l.length) : ∃ a ∈ l, a ≠ pin := by
  match l, hd, h with
  | a :: b :: l, hd, _ =>
    by_cases e : a = pin
    · refine ⟨b, by simp, fun e2 => ?_⟩
      simp only [List.nodup_cons, List.mem_cons, not_or] at hd
      exact hd.1.1 (e.trans e2.symm)
    · exact ⟨a, by simp, e⟩
/-- What holds of who goes. -/
theorem goes (l : List (α × β)) (k pin : α) (v : β) (m : Nat) (hd : (l.map (·.1)).Nodup) (h2 : 2 ≤ m) (hl : l.length ≤ m) (hp : pin ∈ l.map (·.1)) (h : ¬ (putL l k v).length ≤ m) :
    k ∉ l.map (·.1) ∧ putL l k v = l ++ [(k, v)] ∧ l.length = m ∧ ∃ i : Nat, ∃ hi : i < l.length, l[i].1 = vic k pin true (l ++ [(k, v)]) ∧ l[i].1 ≠ k ∧ l[i].1 ≠ pin ∧ ∀ (j : Nat) (hj : j < l.length), j < i → l[j].1 = pin := by
  have hk : k ∉ l.map (·.1) := fun e => h (by have := putL_old l k v e; omega)
  have e := putL_new l k v hk
  rw [e] at h
  simp only [List.length_append, List.length_singleton] at h
  refine ⟨hk, e, by omega, ?_⟩
  obtain ⟨a, ha, hne⟩ := two_other (l.map (·.1)) pin hd (by simp; omega)
  obtain ⟨i, hi, e1, e2, e3, e4⟩ := vic_at k pin [(k, v)] l ⟨a, ha, fun e => hk (e ▸ ha), hne⟩
  refine ⟨i, hi, e1, e2, e3, fun j hj hji => ?_⟩
  rcases e4 j hj hji with e | e
  · exact absurd (e ▸ List.mem_map_of_mem (List.getElem_mem hj)) hk
  · exact e
end

/-! a store of some -/
theorem shut_rep (n : Nat) (v : Int) : shutL (List.replicate n (.int .i64 v)) = true := by
  induction n with
  | zero => rfl
  | succ n ih => rw [List.replicate_succ]; exact ih
section
variable (tag : Nat) (most : Int) (l : List (Int × Bool)) (pin k : Int) (sp : List AV) (hs : shutL sp = true) (hn : l.length ≤ 100000)
include hs hn
theorem pins_stay (hd : (l.map (·.1)).Nodup) (h : ((putL l k false).length : Int) ≤ most) : callH L T 16 tag [.ref 0 (tag, 0) 0, .int .i64 k, .bool false] [hb 0 [.int .i64 most, .mref 1500001 (tag, 0), .msl 1000002 (tag, 0) 1 0 l.length, .int .i64 pin, .bool true], hb 1500001 [.mapd (l.map fun p => .int .i64 p.1) (l.map fun p => .bool p.2)], hb 1000002 (l.map (fun p => .int .i64 p.1) ++ sp)] = some (.tup [.int .i64 0, .bool false], [hb 0 [.int .i64 most, .mref 1500001 (tag, 0), .msl 1000002 (tag, 0) 1 0 (putL l k false).length, .int .i64 pin, .bool true], hb 1500001 [.mapd ((putL l k false).map fun p => .int .i64 p.1) ((putL l k false).map fun p => .bool p.2)], hb 1000002 ((putL l k false).map (fun p => .int .i64 p.1) ++ [])]) := by
  have := put_iB tag most l pin true sp k false hs hn hd
  rw [if_pos h] at this
  exact this
theorem pins_go (hd : (l.map (·.1)).Nodup) (v : Int) (hv : vic k pin true (putL l k false) = v) (h : ¬ ((putL l k false).length : Int) ≤ most) : callH L T 16 tag [.ref 0 (tag, 0) 0, .int .i64 k, .bool false] [hb 0 [.int .i64 most, .mref 1500001 (tag, 0), .msl 1000002 (tag, 0) 1 0 l.length, .int .i64 pin, .bool true], hb 1500001 [.mapd (l.map fun p => .int .i64 p.1) (l.map fun p => .bool p.2)], hb 1000002 (l.map (fun p => .int .i64 p.1) ++ sp)] = some (.tup [.int .i64 v, .bool true], [hb 0 [.int .i64 most, .mref 1500001 (tag, 0), .msl 1000002 (tag, 0) 1 0 (dropL (putL l k false) v).length, .int .i64 pin, .bool true], hb 1500001 [.mapd ((dropL (putL l k false) v).map fun p => .int .i64 p.1) ((dropL (putL l k false) v).map fun p => .bool p.2)], hb 1000002 ((dropL (putL l k false) v).map (fun p => .int .i64 p.1) ++ (List.replicate ((putL l k false).length - (dropL (putL l k false) v).length) (.int .i64 0)))]) := by
  subst hv
  have := put_iB tag most l pin true sp k false hs hn hd
  rw [if_neg h] at this
  exact this
theorem pins_get (p : Int × Bool) (hp : l.find? (fun p => decide (p.1 = k)) = some p) : callH L T 19 tag [.ref 0 (tag, 0) 0, .int .i64 k] [hb 0 [.int .i64 most, .mref 1500001 (tag, 0), .msl 1000002 (tag, 0) 1 0 l.length, .int .i64 pin, .bool true], hb 1500001 [.mapd (l.map fun p => .int .i64 p.1) (l.map fun p => .bool p.2)], hb 1000002 (l.map (fun p => .int .i64 p.1) ++ sp)] = some (.tup [.bool p.2, .bool true], [hb 0 [.int .i64 most, .mref 1500001 (tag, 0), .msl 1000002 (tag, 0) 1 0 l.length, .int .i64 pin, .bool true], hb 1500001 [.mapd (l.map fun p => .int .i64 p.1) (l.map fun p => .bool p.2)], hb 1000002 (l.map (fun p => .int .i64 p.1) ++ sp)]) := by
  have := get_iB tag most l pin true sp k hs (by omega)
  rw [hp] at this
  exact this
theorem pins_len : callH L T 20 tag [.ref 0 (tag, 0) 0] [hb 0 [.int .i64 most, .mref 1500001 (tag, 0), .msl 1000002 (tag, 0) 1 0 l.length, .int .i64 pin, .bool true], hb 1500001 [.mapd (l.map fun p => .int .i64 p.1) (l.map fun p => .bool p.2)], hb 1000002 (l.map (fun p => .int .i64 p.1) ++ sp)] = some (.int .i64 l.length, [hb 0 [.int .i64 most, .mref 1500001 (tag, 0), .msl 1000002 (tag, 0) 1 0 l.length, .int .i64 pin, .bool true], hb 1500001 [.mapd (l.map fun p => .int .i64 p.1) (l.map fun p => .bool p.2)], hb 1000002 (l.map (fun p => .int .i64 p.1) ++ sp)]) := len_iB tag most l pin true sp hs (by omega)
theorem pins_keys : callH L T 18 tag [.ref 0 (tag, 0) 0] [hb 0 [.int .i64 most, .mref 1500001 (tag, 0), .msl 1000002 (tag, 0) 1 0 l.length, .int .i64 pin, .bool true], hb 1500001 [.mapd (l.map fun p => .int .i64 p.1) (l.map fun p => .bool p.2)], hb 1000002 (l.map (fun p => .int .i64 p.1) ++ sp)] = some (.isl 1 l.length (l.map fun p => .int .i64 p.1), [hb 0 [.int .i64 most, .mref 1500001 (tag, 0), .msl 1000002 (tag, 0) 1 0 l.length, .int .i64 pin, .bool true], hb 1500001 [.mapd (l.map fun p => .int .i64 p.1) (l.map fun p => .bool p.2)], hb 1000002 (l.map (fun p => .int .i64 p.1) ++ sp)]) := keys_iB tag most l pin true sp hs hn
end

section
variable (tag : Nat) (most : Int) (l : List (Int × Bool)) (pin k : Int) (hn : l.length ≤ 100000)
include hn
theorem pins_get0 (p : Int × Bool) (hp : l.find? (fun p => decide (p.1 = k)) = some p) : callH L T 19 tag [.ref 0 (tag, 0) 0, .int .i64 k] [hb 0 [.int .i64 most, .mref 1500001 (tag, 0), .msl 1000002 (tag, 0) 1 0 l.length, .int .i64 pin, .bool true], hb 1500001 [.mapd (l.map fun p => .int .i64 p.1) (l.map fun p => .bool p.2)], hb 1000002 (l.map (fun p => .int .i64 p.1))] = some (.tup [.bool p.2, .bool true], [hb 0 [.int .i64 most, .mref 1500001 (tag, 0), .msl 1000002 (tag, 0) 1 0 l.length, .int .i64 pin, .bool true], hb 1500001 [.mapd (l.map fun p => .int .i64 p.1) (l.map fun p => .bool p.2)], hb 1000002 (l.map (fun p => .int .i64 p.1))]) := by
  have := pins_get tag most l pin k [] rfl hn p hp
  simp only [List.append_nil] at this
  exact this
theorem pins_len0 : callH L T 20 tag [.ref 0 (tag, 0) 0] [hb 0 [.int .i64 most, .mref 1500001 (tag, 0), .msl 1000002 (tag, 0) 1 0 l.length, .int .i64 pin, .bool true], hb 1500001 [.mapd (l.map fun p => .int .i64 p.1) (l.map fun p => .bool p.2)], hb 1000002 (l.map (fun p => .int .i64 p.1))] = some (.int .i64 l.length, [hb 0 [.int .i64 most, .mref 1500001 (tag, 0), .msl 1000002 (tag, 0) 1 0 l.length, .int .i64 pin, .bool true], hb 1500001 [.mapd (l.map fun p => .int .i64 p.1) (l.map fun p => .bool p.2)], hb 1000002 (l.map (fun p => .int .i64 p.1))]) := by
  have := pins_len tag most l pin [] rfl hn
  simp only [List.append_nil] at this
  exact this
end
theorem pins_pin (tag : Nat) (most pin : Int) : callH L T 17 tag [.ref 0 (tag, 0) 0, .int .i64 pin] [hb 0 [.int .i64 most, .mref 1500001 (tag, 0), .msl 1000002 (tag, 0) 1 0 1, .int .i64 0, .bool false], hb 1500001 [.mapd [.int .i64 pin] [.bool true]], hb 1000002 [.int .i64 pin]] =
    some (.tup [], [hb 0 [.int .i64 most, .mref 1500001 (tag, 0), .msl 1000002 (tag, 0) 1 0 1, .int .i64 pin, .bool true], hb 1500001 [.mapd [.int .i64 pin] [.bool true]], hb 1000002 [.int .i64 pin]]) := pin_iB tag most [(pin, true)] 0 false [] pin rfl (by simp)
theorem numN (n : Int) (m : Nat) (h : 0 < m) : ∃ p : Nat, p < m ∧ n % m = p := ⟨(n % m).toNat, by have := Int.emod_lt_of_pos n (show (0 : Int) < m by omega); have := Int.emod_nonneg n (show (m : Int) ≠ 0 by omega); omega, by have := Int.emod_nonneg n (show (m : Int) ≠ 0 by omega); omega⟩
theorem pins_ok (most : Int) (xs : List Int) (pin : Int) : callω L T 4 0 [.int .i64 most, .isl 1 xs.length (xs.map (.int .i64)), .int .i64 pin] [none, none, none] = some (.bool true, [none, none, none]) := by
  obtain ⟨m, hm, em⟩ := numN most 12 (by omega)
  obtain ⟨p, hp, ep⟩ := numN pin 20 (by omega)
  have hM := fun tag => t_Number tag most 12 (by omega) (by omega)
  have hP := fun tag => t_Number tag pin 20 (by omega) (by omega)
  rw [show most % 12 = (m : Int) from em] at hM
  rw [show pin % 20 = (p : Int) from ep] at hP
  have hw : IntKind.i64.wrap ((m : Int) + 2) = (m : Int) + 2 := wrap_i64 (by omega) (by omega)
  rw [call_ex (show T 4 = some (.code a4) from rfl) rfl rfl]
  by_cases hl : 60 < xs.length
  · (have fA := @hw; have c1 := fun x1 => first_ok x1; have c2 := fun x1 => hM x1; have c3 := fun x1 => hP x1; refine gox ?_; clear fA c1 c2 c3)
    (refine finx ?_; try with_reducible rfl)
  · have h0 : shutL [] = true := rfl
    (have fA := @hw; have c1 := fun x1 => first_ok x1; have c2 := fun x1 => hM x1; have c3 := fun x1 => hP x1; have c4 := fun x1 => new_iB x1 ((m : Int) + 2) (by omega) (by omega); have c5 := fun x1 => putN_iB x1 ((m : Int) + 2) 0 false p true (by omega); have c6 := fun x1 => pins_pin x1 ((m : Int) + 2) p; refine gox ?_; clear fA c1 c2 c3 c4 c5 c6)
    have hone : (∀ b : Bool, ((b == b) = true)) := fun b => beq_self_eq_true b
    refine Eq.trans (headX_atX (X := List (Int × Bool) × List AV × Nat × Nat) (fun _ x => shutL x.2.1 = true ∧ (x.1.map (·.1)).Nodup ∧ (p : Int) ∈ x.1.map (·.1) ∧ x.1.length ≤ m + 2) (fun j x => ⟨[(0, .int .i64 (IntKind.i64.wrap ((m : Int) + 2))), (1, .isl 1 xs.length (xs.map (.int .i64))), (2, .int .i64 (p : Nat)), (7, .bool true), (8, .ref 35400000 (0, 1) 0), (10, .int .i64 (j : Nat))],
      [(35400000, ⟨(0, 1), [.int .i64 ((m : Int) + 2), .mref 35400001500001 (0, x.2.2.1), .msl 35400001000002 (0, x.2.2.1) 1 0 x.1.length, .int .i64 (p : Nat), .bool true]⟩),
       (35400001500001, ⟨(0, x.2.2.1), [.mapd (x.1.map fun p => .int .i64 p.1) (x.1.map fun p => .bool p.2)]⟩), (35400001000002, ⟨(0, x.2.2.1), x.1.map (fun p => .int .i64 p.1) ++ x.2.1⟩)], x.2.2.2, 0⟩) xs.length
      (fun _ _ => some (.bool true, [none, none, none])) ?_ ?_ 0 (by omega) ([((p : Int), true)], [], _, _) ⟨rfl, by simp, by simp, by simp⟩) rfl
    · rintro j ⟨l, sp, g, nx⟩ hj ⟨hs, hd, hpl, hlen⟩ ih
      simp only at hs hd hpl hlen ih ⊢
      obtain ⟨q, hq, eq⟩ := numN xs[j] 40 (by omega)
      have hN := fun tag => t_Number tag xs[j] 40 (by omega) (by omega)
      rw [show xs[j] % 40 = (q : Int) from eq] at hN
      have hx : (xs.map (AV.int .i64))[j]? = some (.int .i64 xs[j]) := by simp [hj]
      have hn : l.length ≤ 100000 := by omega
      by_cases hle : ((putL l (q : Int) false).length : Int) ≤ (m : Int) + 2
      · have hd' := putL_nodup l (q : Int) false hd
        obtain ⟨a, ha⟩ := find_mem _ _ (putL_mem l (q : Int) p false hpl)
        obtain ⟨b, hb⟩ := find_mem _ _ (putL_self l (q : Int) false)
        have hn' : (putL l (q : Int) false).length ≤ 100000 := by omega
        have hpl' := putL_mem l (q : Int) p false hpl
        generalize hL : putL l (q : Int) false = L2 at hle hd' ha hb hn' hpl'
        have e1 := fun tag => pins_stay tag ((m : Int) + 2) l p q sp hs hn hd (by rw [hL]; exact hle)
        rw [hL] at e1
        have nle : ¬ (m : Int) + 2 < (L2.length : Int) := by omega
        (have fA := And.intro @hx (And.intro @hw (And.intro @hs (And.intro @shut_ki @shut_vb))); have c1 := fun x1 => pins_keys x1 ((m : Int) + 2) l p sp hs hn; have c2 := fun x1 => hN x1; have c3 := fun x1 => e1 x1; have c4 := fun x1 => pins_get0 x1 ((m : Int) + 2) L2 p p hn' a ha; have c5 := fun x1 => pins_get0 x1 ((m : Int) + 2) L2 p q hn' b hb; have c6 := fun x1 => pins_len0 x1 ((m : Int) + 2) L2 p hn'; refine gox ?_; clear fA c1 c2 c3 c4 c5 c6)
        have hl2 : L2.length ≤ m + 2 := by omega
        have ih' := fun g nx => ih (L2, [], g, nx) ⟨rfl, hd', hpl', hl2⟩
        simp only [List.append_nil] at ih'
        refine Eq.trans (head_eq (by rw [wrap_succ hj (by omega)]) rfl rfl) (ih' _ _)
      · obtain ⟨hk, eL, em2, i0, hi, e1, e2, e3, e4⟩ := goes l (q : Int) (p : Int) false (m + 2) hd (by omega) hlen hpl (by omega)
        have hmv : l[i0].1 ∈ l.map (·.1) := List.mem_map_of_mem (List.getElem_mem hi)
        generalize hv : l[i0].1 = v at e1 e2 e3 hmv
        have hne : ((putL l (q : Int) false).length : Int) ≤ (m : Int) + 2 → False := hle
        rw [← eL] at e1
        have gx := fun tag => pins_go tag ((m : Int) + 2) l p q sp hs hn hd v e1.symm hle
        have hd' := filter_nodup _ (fun x => !decide (x.1 = v)) (putL_nodup l (q : Int) false hd)
        have hpl' := dropL_mem _ v _ (putL_mem l (q : Int) p false hpl) (Ne.symm e3)
        have hql' := dropL_mem _ v _ (putL_self l (q : Int) false) (Ne.symm e2)
        have hl2 := dropL_len _ v (putL_mem l (q : Int) v false hmv)
        have hl3 := putL_len l (q : Int) false
        have hs2 := shut_rep ((putL l (q : Int) false).length - (dropL (putL l (q : Int) false) v).length) 0
        obtain ⟨a, ha⟩ := find_mem _ _ hpl'
        obtain ⟨b, hb⟩ := find_mem _ _ hql'
        have hl4 : (dropL (putL l (q : Int) false) v).length ≤ m + 2 := by omega
        generalize (List.replicate ((putL l (q : Int) false).length - (dropL (putL l (q : Int) false) v).length) (AV.int .i64 0)) = sp2 at gx hs2
        change ((dropL (putL l (q : Int) false) v).map (·.1)).Nodup at hd'
        generalize dropL (putL l (q : Int) false) v = L2 at gx hd' hpl' hql' ha hb hl4
        have hn' : L2.length ≤ 100000 := by omega
        have nle : ¬ (m : Int) + 2 < (L2.length : Int) := by omega
        have n1 : (v == (p : Int)) = false := beq_eq_false_iff_ne.2 e3
        clear hl2 hl3 eL e1 hle hne
        (have fA := And.intro @hx (And.intro @hw (And.intro @hs (And.intro @hs2 (And.intro @shut_ki @shut_vb)))); have c1 := fun x1 => pins_keys x1 ((m : Int) + 2) l p sp hs hn; have c2 := fun x1 => hN x1; have c3 := fun x1 => gx x1; have c4 := fun x1 => pins_get x1 ((m : Int) + 2) L2 p p sp2 hs2 hn' a ha; have c5 := fun x1 => pins_get x1 ((m : Int) + 2) L2 p q sp2 hs2 hn' b hb; have c6 := fun x1 => pins_len x1 ((m : Int) + 2) L2 p sp2 hs2 hn'; refine gox ?_; clear fA c1 c2 c3 c4 c5 c6)
        have hvl : l[i0].1 = v := hv
        have hi' : ((i0 : Nat) : Int) < (l.length : Int) := by omega
        have n2 : ((p : Int) == v) = false := beq_eq_false_iff_ne.2 (Ne.symm e3)
        have n3 : (!((p : Int) == v)) = true := by rw [n2]; rfl
        have n4 : ((p : Int) == (p : Int)) = true := beq_self_eq_true _
        have n5 : (!((p : Int) == (p : Int))) = false := by rw [n4]; rfl
        have n6 : (v == v) = true := beq_self_eq_true _
        have n7 : (!(v == v)) = false := by rw [n6]; rfl
        have n8 : ¬ (p : Int) = v := Ne.symm e3
        refine Eq.trans (headX_at (fun i nx' => ⟨[(0, .int .i64 (IntKind.i64.wrap ((m : Int) + 2))), (1, .isl 1 xs.length (xs.map (.int .i64))), (2, .int .i64 (p : Nat)), (7, .bool true), (8, .ref 35400000 (0, 1) 0), (10, .int .i64 (j : Nat)), (11, .isl 1 l.length (l.map fun p => .int .i64 p.1)), (12, .int .i64 (q : Nat)), (13, .int .i64 v), (17, .int .i64 (i : Nat))],
      [(35400000, ⟨(0, 1), [.int .i64 ((m : Int) + 2), .mref 35400001500001 (0, nx + 1 + 1 + 1), .msl 35400001000002 (0, nx + 1 + 1 + 1) 1 0 L2.length, .int .i64 (p : Nat), .bool true]⟩),
       (35400001500001, ⟨(0, nx + 1 + 1 + 1), [.mapd (L2.map fun p => .int .i64 p.1) (L2.map fun p => .bool p.2)]⟩), (35400001000002, ⟨(0, nx + 1 + 1 + 1), L2.map (fun p => .int .i64 p.1) ++ sp2⟩)], nx', 0⟩) i0
      (fun _ => some (.bool true, [none, none, none])) ?_ ?_ _) rfl
        · intro i nx' hii ih2
          have hil : i < l.length := by omega
          have hil' : (i : Int) < (l.length : Int) := by omega
          have hy : (l.map fun p => AV.int .i64 p.1)[i]? = some (.int .i64 (p : Nat)) := by
            have := e4 i hil hii
            simp [hil, this]
          (have fA := And.intro @hy (And.intro @hs2 (And.intro @shut_ki @shut_vb)); refine gox ?_; clear fA)
          refine Eq.trans (head_eq (by rw [wrap_succ hil (by omega)]) rfl rfl) (ih2 _)
        · intro nx'
          have hy : (l.map fun p => AV.int .i64 p.1)[i0]? = some (.int .i64 v) := by simp [hi, hvl]
          (have fA := And.intro @hy (And.intro @hs2 (And.intro @shut_ki @shut_vb)); have c1 := fun x1 => pins_get x1 ((m : Int) + 2) L2 p q sp2 hs2 hn' b hb; refine gox ?_; clear fA c1)
          refine Eq.trans (head_eq (by rw [wrap_succ hj (by omega)]) rfl rfl) (ih (L2, sp2, _, _) ⟨hs2, hd', hpl', hl4⟩)
    · rintro ⟨l, sp, g, nx⟩ ⟨hs, hd, hpl, hlen⟩
      simp only at hs hd hpl hlen ⊢
      (refine gox ?_)
      (refine finx ?_; try with_reducible rfl)

end Go.Proofs.YtmckiigefkfpaaaDoor
