/- Functions of the seat, worked off from their code: chunk st0. Written by program (tools/mkp.py) from wip/fn. -/
import Derived.Test.YtmckiigefkfpaaaDoorSimT
import Derived.Test.YtmckiigefkfpaaaDoorSimY

set_option maxRecDepth 100000
set_option maxHeartbeats 40000000
set_option linter.unusedSimpArgs false
set_option linter.unusedVariables false
namespace Go.Proofs.YtmckiigefkfpaaaDoor
open Go Go.Sim
attribute [local irreducible] chk brX hX finH keyX visit packed backPk backOk backHeap stays getAll getX strX setX takeX normX fillX lendX partsX opsX callK lentK lentR giveX adoptX resX joinX headX loopX seqK blkK regK finX exOps ex eqT
attribute [local simp] setR_int setR_bool setR_zero setR_succ repl_int repl_bool List.getElem?_cons_zero List.getElem?_cons_succ List.getElem?_nil w_i64 w_u64 w_u8 bAnd_u8 bOr_u8 bXor_u8 bAndNot_u8 bShl_u8 wrap_u8_range all_plain_int all_plain_bool all_plain_app pl_bool pl_int pl_str pl_nilp pl_nsl pl_nilI pl_nilF take_map_len AV.cells TI.isAgg
theorem ba_loop (bs : ByteArray) : ∀ (n i : Nat) (r : List UInt8), bs.size - i = n → ByteArray.toList.loop bs i r = r.reverse ++ bs.data.toList.drop i := by
  intro n
  induction n with
  | zero =>
    intro i r h
    unfold ByteArray.toList.loop
    rw [if_neg (by omega), List.drop_eq_nil_of_le (by have : bs.data.size = bs.size := rfl; simp; omega)]
    simp
  | succ n ih =>
    intro i r h
    unfold ByteArray.toList.loop
    have hi : i < bs.size := by omega
    have hi' : i < bs.data.toList.length := by have : bs.data.size = bs.size := rfl; simp; omega
    rw [if_pos hi, ih _ _ (by omega), List.drop_eq_getElem_cons hi']
    simp only [List.reverse_cons, List.append_assoc, List.singleton_append]
    congr 2
    simp [ByteArray.get!, getElem!_def]
    rw [Array.getElem?_eq_getElem (by simpa using hi')]
theorem ba_toList (bs : ByteArray) : bs.toList = bs.data.toList := by
  show ByteArray.toList.loop bs 0 [] = _
  have := ba_loop bs bs.size 0 [] rfl
  simpa using this
theorem ba_eq (a b : ByteArray) : (a.toList == b.toList) = decide (a = b) := by
  rw [ba_toList, ba_toList, Bool.eq_iff_iff]
  simp only [beq_iff_eq, decide_eq_true_eq]
  constructor
  · intro h; exact ByteArray.ext (Array.toList_inj.1 h)
  · rintro rfl; rfl
theorem ba_beq (a b : ByteArray) : (a == b) = decide (a = b) := by
  show (a.data == b.data) = _
  rw [Bool.eq_iff_iff]
  simp only [beq_iff_eq, decide_eq_true_eq]
  constructor
  · intro h; exact ByteArray.ext h
  · rintro rfl; rfl
theorem int_beq (a b : Int) : (a == b) = decide (a = b) := rfl
section
variable {α : Type} {p : α → Bool}
theorem ix_none : ∀ (l : List α) (j : Nat), ixF p j l = -1 → l.filter (fun x => !p x) = l
  | [], _, _ => rfl
  | x :: l, j, h => by
    rw [ixF] at h
    by_cases hx : p x = true
    · rw [if_pos hx] at h; omega
    · rw [if_neg hx] at h
      rw [List.filter_cons_of_pos (by simpa using hx), ix_none l (j + 1) h]
theorem ix_some : ∀ (l : List α) (j : Nat), ixF p j l ≠ -1 → ∃ i : Nat, ∃ h : i < l.length, ixF p j l = (j + i : Nat) ∧ p l[i] = true ∧ (l.take i).filter (fun x => !p x) = l.take i
  | [], _, h => (h rfl).elim
  | x :: l, j, h => by
    rw [ixF] at h ⊢
    by_cases hx : p x = true
    · rw [if_pos hx]
      exact ⟨0, by simp, by simp, by simpa using hx, rfl⟩
    · rw [if_neg hx] at h ⊢
      obtain ⟨i, h1, h2, h3, h4⟩ := ix_some l (j + 1) h
      refine ⟨i + 1, by simpa using h1, by rw [h2]; congr 1; omega, by simpa using h3, ?_⟩
      rw [List.take_succ_cons, List.filter_cons_of_pos (by simpa using hx), h4]
/-- How many are kept of the first j. -/
def nk (p : α → Bool) (l : List α) (j : Nat) : Nat := ((l.take j).filter fun x => !p x).length
/-- What stands there when the first j have been looked at. -/
def dl (p : α → Bool) (l : List α) (j : Nat) : List α := (l.take j).filter (fun x => !p x) ++ l.drop (nk p l j)
theorem nk_le (l : List α) (j : Nat) : nk p l j ≤ j := Nat.le_trans (List.length_filter_le _ _) (by rw [List.length_take]; omega)
theorem nk_len (l : List α) (j : Nat) : nk p l j ≤ l.length := Nat.le_trans (List.length_filter_le _ _) (by rw [List.length_take]; omega)
theorem dl_len (l : List α) (j : Nat) : (dl p l j).length = l.length := by
  have := nk_len (p := p) l j
  simp only [dl, List.length_append, List.length_drop]
  show nk p l j + _ = _
  omega
theorem dl_at {l : List α} {j : Nat} (h : j < l.length) (h' : j < (dl p l j).length) : (dl p l j)[j] = l[j] := by
  have h1 := nk_le (p := p) l j
  have e : ((l.take j).filter fun x => !p x).length = nk p l j := rfl
  simp only [dl]
  rw [List.getElem_append_right (by rw [e]; omega)]
  simp only [e, List.getElem_drop]
  congr 1
  omega
theorem take_filter {l : List α} {j : Nat} (h : j < l.length) : (l.take (j + 1)).filter (fun x => !p x) = (l.take j).filter (fun x => !p x) ++ (if p l[j] then [] else [l[j]]) := by
  rw [List.take_succ_eq_append_getElem h, List.filter_append]
  congr 1
  cases hp : p l[j] <;> simp [hp]
theorem nk_skip {l : List α} {j : Nat} (h : j < l.length) (hp : p l[j] = true) : nk p l (j + 1) = nk p l j := by
  simp only [nk, take_filter h, hp, if_true, List.append_nil]
theorem nk_keep {l : List α} {j : Nat} (h : j < l.length) (hp : p l[j] = false) : nk p l (j + 1) = nk p l j + 1 := by
  simp [nk, take_filter h, hp]
theorem dl_skip {l : List α} {j : Nat} (h : j < l.length) (hp : p l[j] = true) : dl p l (j + 1) = dl p l j := by
  simp only [dl, nk_skip h hp, take_filter h, hp, if_true, List.append_nil]
theorem dl_keep {l : List α} {j : Nat} (h : j < l.length) (hp : p l[j] = false) : (dl p l j).set (nk p l j) l[j] = dl p l (j + 1) := by
  have h1 := nk_le (p := p) l j
  have e : ((l.take j).filter fun x => !p x).length = nk p l j := rfl
  simp only [dl, nk_keep h hp, take_filter h, hp, Bool.false_eq_true, if_false]
  rw [List.set_append_right _ _ (by rw [e]; omega), e, Nat.sub_self, List.drop_eq_getElem_cons (show nk p l j < l.length by omega), List.set_cons_zero, List.append_assoc, List.singleton_append]
theorem dl_first {l : List α} {i : Nat} (h : i < l.length) (hp : p l[i] = true) (hf : (l.take i).filter (fun x => !p x) = l.take i) : dl p l (i + 1) = l ∧ nk p l (i + 1) = i := by
  have e : nk p l i = i := by simp only [nk, hf, List.length_take]; omega
  refine ⟨?_, by rw [nk_skip h hp, e]⟩
  rw [dl_skip h hp, dl, e, hf, List.take_append_drop]
theorem nk_end (l : List α) : nk p l l.length = (l.filter fun x => !p x).length := by simp [nk]
theorem set_map (f : α → AV) (l : List α) (sp : List AV) {i : Nat} (h : i < l.length) (v : α) : setR (l.map f ++ sp) i [f v] = (l.set i v).map f ++ sp := by
  simp only [setR, List.length_singleton]
  rw [List.take_append_of_le_length (by simp; omega), List.drop_append_of_le_length (by simp; omega), ← List.append_assoc]
  congr 1
  rw [List.map_set, List.set_eq_take_append_cons_drop, if_pos (by simpa using h)]
  simp
theorem clear_map (f : α → AV) (l : List α) (sp : List AV) (z : AV) : setR ((dl p l l.length).map f ++ sp) (nk p l l.length) (repl (l.length - nk p l l.length) [z]) =
    (l.filter fun x => !p x).map f ++ (List.replicate (l.length - (l.filter fun x => !p x).length) z ++ sp) := by
  have e := nk_end (p := p) l
  have hl := dl_len (p := p) l l.length
  have hn := nk_len (p := p) l l.length
  have hr : repl (l.length - nk p l l.length) [z] = List.replicate (l.length - nk p l l.length) z := by simp [repl]
  rw [hr]
  simp only [setR, List.length_replicate]
  rw [List.take_append_of_le_length (by simp [hl]; omega), List.drop_append, List.drop_eq_nil_of_le (by simp [hl]; omega), List.nil_append]
  simp only [List.length_map, hl]
  rw [show nk p l l.length + (l.length - nk p l l.length) - l.length = 0 from by omega, List.drop_zero, List.append_assoc]
  congr 1
  · rw [← List.map_take]
    congr 1
    simp only [dl, List.take_length]
    rw [List.take_append_of_le_length (by rw [e]; exact Nat.le_refl _), e, List.take_length]
  · rw [e]
theorem clear_mapI (f : α → AV) (l : List α) (sp : List AV) (z : Int) (kd : IntKind) : setR ((dl p l l.length).map f ++ sp) (nk p l l.length) ((List.replicate (l.length - nk p l l.length) z).map (.int kd)) =
    (l.filter fun x => !p x).map f ++ (List.replicate (l.length - (l.filter fun x => !p x).length) (.int kd z) ++ sp) := by
  rw [← clear_map]
  congr 1
  simp [repl]
end
theorem keyEq_s (a b : ByteArray) : keyEq .str (.str a) (.str b) = some (decide (a = b)) := by rw [← ba_beq]; rfl
theorem keyEq_i (a b : Int) : keyEq (.int .i64) (.int .i64 a) (.int .i64 b) = some (decide (a = b)) := rfl
theorem keyOK_s (a : ByteArray) : keyEq .str (.str a) (.str a) = some true := by rw [keyEq_s, decide_eq_true rfl]
theorem keyOK_i (a : Int) : keyEq (.int .i64) (.int .i64 a) (.int .i64 a) = some true := by rw [keyEq_i, decide_eq_true rfl]
section
variable {α β : Type} [DecidableEq α] {t : TD} {ek : α → AV} {ev : β → AV}
theorem mdel_map (hq : ∀ a b, keyEq t (ek a) (ek b) = some (decide (a = b))) : ∀ (l : List (α × β)) (k : α), (l.map (·.1)).Nodup →
    mdel t (ek k) (l.map fun p => ek p.1) (l.map fun p => ev p.2) = some ((l.filter fun p => !decide (p.1 = k)).map (fun p => ek p.1), (l.filter fun p => !decide (p.1 = k)).map fun p => ev p.2)
  | [], _, _ => rfl
  | (a, b) :: l, k, hd => by
    simp only [List.map_cons, List.nodup_cons] at hd
    simp only [List.map_cons, mdel, hq]
    by_cases h : k = a
    · subst h
      have hf : l.filter (fun p => !decide (p.1 = k)) = l := List.filter_eq_self.2 fun p hp => by
        have : p.1 ≠ k := fun e => hd.1 (e ▸ List.mem_map_of_mem hp)
        simpa using this
      simp [hf]
    · have ih := mdel_map hq l k hd.2
      have h' : ¬ a = k := fun e => h e.symm
      simp only [decide_eq_false h, ih, Option.map_some]
      rw [List.filter_cons_of_pos (by simpa using h')]
      rfl
theorem mput_new (hq : ∀ a b, keyEq t (ek a) (ek b) = some (decide (a = b))) : ∀ (l : List (α × β)) (k : α) (v : β), (∀ p ∈ l, p.1 ≠ k) →
    mput t (ek k) (ev v) (l.map fun p => ek p.1) (l.map fun p => ev p.2) = some ((l ++ [(k, v)]).map (fun p => ek p.1), (l ++ [(k, v)]).map fun p => ev p.2)
  | [], _, _, _ => rfl
  | (a, b) :: l, k, v, h => by
    have h' : ¬ k = a := fun e => h _ List.mem_cons_self e.symm
    simp only [List.map_cons, mput, hq, decide_eq_false h', mput_new hq l k v fun p hp => h p (List.mem_cons_of_mem _ hp), Option.map_some]
    rfl
theorem mfind_map (hq : ∀ a b, keyEq t (ek a) (ek b) = some (decide (a = b))) : ∀ (l : List (α × β)) (k : α),
    mfind t (ek k) (l.map fun p => ek p.1) (l.map fun p => ev p.2) = some ((l.find? fun p => decide (p.1 = k)).map fun p => ev p.2)
  | [], _ => rfl
  | (a, b) :: l, k => by
    simp only [List.map_cons, mfind, hq]
    by_cases h : k = a
    · subst h; simp
    · have h' : ¬ a = k := fun e => h e.symm
      simp only [decide_eq_false h, mfind_map hq l k, List.find?_cons, decide_eq_false h']
theorem mlook_map (hq : ∀ a b, keyEq t (ek a) (ek b) = some (decide (a = b))) (l : List (α × β)) (k : α) (z : AV) :
    mlook t z (ek k) (l.map fun p => ek p.1) (l.map fun p => ev p.2) = some (match l.find? fun p => decide (p.1 = k) with | some p => (ev p.2, true) | none => (z, false)) := by
  rw [mlook, hq, decide_eq_true rfl, mfind_map hq]
  cases l.find? fun p => decide (p.1 = k) <;> rfl
end
/-- Which one goes. -/
def vic {α β : Type} [DecidableEq α] (k pin : α) (pinned : Bool) : List (α × β) → α
  | [] => k
  | p :: l => if p.1 ≠ k ∧ ¬ (pinned = true ∧ p.1 = pin) then p.1 else vic k pin pinned l
/-- A key is laid behind all others. -/
def putL {α β : Type} [DecidableEq α] (l : List (α × β)) (k : α) (v : β) : List (α × β) := (l.filter fun p => !decide (p.1 = k)) ++ [(k, v)]
def dropL {α β : Type} [DecidableEq α] (l : List (α × β)) (k : α) : List (α × β) := l.filter fun p => !decide (p.1 = k)
theorem filter_nodup {α β : Type} (l : List (α × β)) (q : α × β → Bool) (h : (l.map (·.1)).Nodup) : ((l.filter q).map (·.1)).Nodup := h.sublist (List.Sublist.map _ List.filter_sublist)
theorem putL_nodup {α β : Type} [DecidableEq α] (l : List (α × β)) (k : α) (v : β) (h : (l.map (·.1)).Nodup) : ((putL l k v).map (·.1)).Nodup := by
  simp only [putL, List.map_append, List.map_cons, List.map_nil, List.nodup_append, List.nodup_cons, List.not_mem_nil, not_false_eq_true, List.nodup_nil, and_self, List.mem_singleton]
  refine ⟨filter_nodup l _ h, trivial, ?_⟩
  intro a ha b hb e
  subst hb e
  obtain ⟨p, hp, e⟩ := List.mem_map.1 ha
  have := (List.mem_filter.1 hp).2
  simp [e] at this
theorem take_map {α : Type} (f : α → AV) (l : List α) (x : List AV) : (l.map f ++ x).take l.length = l.map f := by
  rw [List.take_append_of_le_length (by simp)]
  exact List.take_of_length_le (by simp)
theorem shutL_mapk {α : Type} (f : α → AV) (h : ∀ x, (f x).shut = true) (l : List α) : shutL (l.map f) = true := shutL_map f h l
theorem shut_ks {β : Type} (l : List (ByteArray × β)) : shutL (l.map fun p => .str p.1) = true := shutL_map _ (fun _ => rfl) l
theorem shut_ki {β : Type} (l : List (Int × β)) : shutL (l.map fun p => .int .i64 p.1) = true := shutL_map _ (fun _ => rfl) l
theorem shut_vi {α : Type} (l : List (α × Int)) : shutL (l.map fun p => .int .i64 p.2) = true := shutL_map _ (fun _ => rfl) l
theorem shut_vb {α : Type} (l : List (α × Bool)) : shutL (l.map fun p => .bool p.2) = true := shutL_map _ (fun _ => rfl) l
theorem shut_vs {α : Type} (l : List (α × ByteArray)) : shutL (l.map fun p => .str p.2) = true := shutL_map _ (fun _ => rfl) l
theorem dropp_sI (tag : Nat) (x k : ByteArray) : callω L T 55 tag [.str x, .ref 1 (tag, 0) 0] [none, some [.str k]] = some (.bool (decide (x = k)), [none, some [.str k]]) := by
  rw [← ba_eq]
  rw [call_ex (show T 55 = some (.code a55) from rfl) rfl rfl]
  (refine gox ?_)
  (refine finx ?_; try with_reducible rfl)
theorem dropp_iB (tag : Nat) (x k : Int) : callω L T 57 tag [.int .i64 x, .ref 1 (tag, 0) 0] [none, some [.int .i64 k]] = some (.bool (decide (x = k)), [none, some [.int .i64 k]]) := by
  skip
  rw [call_ex (show T 57 = some (.code a57) from rfl) rfl rfl]
  (refine gox ?_)
  (refine finx ?_; try with_reducible rfl)
theorem dropp_iI (tag : Nat) (x k : Int) : callω L T 58 tag [.int .i64 x, .ref 1 (tag, 0) 0] [none, some [.int .i64 k]] = some (.bool (decide (x = k)), [none, some [.int .i64 k]]) := by
  skip
  rw [call_ex (show T 58 = some (.code a58) from rfl) rfl rfl]
  (refine gox ?_)
  (refine finx ?_; try with_reducible rfl)
theorem dropp_iS (tag : Nat) (x k : Int) : callω L T 62 tag [.int .i64 x, .ref 1 (tag, 0) 0] [none, some [.int .i64 k]] = some (.bool (decide (x = k)), [none, some [.int .i64 k]]) := by
  skip
  rw [call_ex (show T 62 = some (.code a62) from rfl) rfl rfl]
  (refine gox ?_)
  (refine finx ?_; try with_reducible rfl)

end Go.Proofs.YtmckiigefkfpaaaDoor
