/- What an operation looks at, and what it turns. -/
import Derived.Test.YtmckiigefkfpaaaDoorSimMain
import Derived.Orders
set_option linter.unusedVariables false
set_option linter.unusedSimpArgs false
namespace Go.Sim
open Go

/-! ## an operation looks at its operands, and at memory, alone -/

section
variable {L : Nat → Option TI} {K : Ann} {Γ : Oracle} {st : St} {e : List (Nat × AV)} {d ty : Nat} {op : Op}

/-- The same state with other slots. -/
abbrev St.slots (st : St) (e : List (Nat × AV)) : St := { st with env := e }

theorem slCells_slots {sz : Nat} {v : AV} : slCells (st.slots e) sz v = slCells st sz v := by cases v <;> rfl
theorem aLoad_slots {i : TI} {v : AV} : aLoad i (st.slots e) v = aLoad i st v := by cases v <;> rfl
theorem gLoad_slots {rd : List (Nat × List Nat)} {i : TI} {v : AV} : gLoad rd i (st.slots e) v = gLoad rd i st v := by cases v <;> rfl
theorem putCells_slots {s : Nat} {cells : List AV} : putCells (st.slots e) s cells = (putCells st s cells).slots e := by
  unfold putCells
  simp only
  cases aget s st.heap <;> rfl
theorem map_bind_slots {α : Type} {x : Option α} {f g : α → Option (AV × St)} (h : ∀ a, f a = (g a).map fun p => (p.1, p.2.slots e)) :
    x.bind f = (x.bind g).map fun p => (p.1, p.2.slots e) := by
  cases x with
  | none => rfl
  | some a => exact h a
theorem map_ite_slots {p : Prop} [Decidable p] {a b c d : Option (AV × St)} (h : a = b.map fun p => (p.1, p.2.slots e)) (k : c = d.map fun p => (p.1, p.2.slots e)) :
    (if p then a else c) = (if p then b else d).map fun p => (p.1, p.2.slots e) := by
  by_cases hp : p
  · simp only [if_pos hp]; exact h
  · simp only [if_neg hp]; exact k
theorem aStore_slots {i : TI} {a v : AV} : aStore i (st.slots e) a v = (aStore i st a v).map (·.slots e) := by
  cases a <;> try rfl
  rename_i s g o
  show (blkOf st s g).bind _ = ((blkOf st s g).bind _).map _
  cases blkOf st s g with
  | none => rfl
  | some cells =>
    simp only [Option.bind_some]
    by_cases hp : v.solid = true ∧ v.cells.length = i.size ∧ o + i.size ≤ cells.length
    · simp only [if_pos hp, putCells_slots]; rfl
    · simp only [if_neg hp]; rfl
theorem aAppend_slots {sz bytes : Nat} {s x : AV} : aAppend sz bytes (st.slots e) d s x = (aAppend sz bytes st d s x).map fun p => (p.1, p.2.slots e) := by
  unfold aAppend
  rw [slCells_slots]
  refine map_bind_slots fun q => ?_
  obtain ⟨n, new⟩ := q
  cases s <;> try rfl
  · exact map_bind_slots (x := blkOf st _ _) fun cells => map_ite_slots rfl rfl
  · exact map_ite_slots rfl rfl
theorem lend_slots {j : Nat} {v : AV} {t : Option Nat} : lend L (st.slots e) j v t = lend L st j v t := by cases v <;> rfl
theorem lendAll_slots : ∀ {vs : List AV} {j : Nat} {ts : List Nat}, lendAll L (st.slots e) j vs ts = lendAll L st j vs ts
  | [], j, ts => rfl
  | v :: vs, j, ts => by simp only [lendAll, lend_slots, lendAll_slots]
theorem giveBack_slots : ∀ {l : List (Option (Nat × Nat × Nat))} {r : List (Option (List AV))} {st : St}, giveBack (st.slots e) l r = (giveBack st l r).map (·.slots e)
  | [], [], st => rfl
  | [], _ :: _, st => rfl
  | none :: l, [], st => rfl
  | none :: l, none :: r, st => by simp only [giveBack]; exact giveBack_slots
  | none :: l, some _ :: r, st => rfl
  | some (s, o, n) :: l, [], st => rfl
  | some (s, o, n) :: l, none :: r, st => rfl
  | some (s, o, n) :: l, some cells :: r, st => by
    simp only [giveBack]
    cases aget s st.heap with
    | none => rfl
    | some b =>
      simp only
      by_cases hp : cells.length = n
      · simp only [if_pos hp, putCells_slots]; exact giveBack_slots
      · simp only [if_neg hp]; rfl
theorem adopt_slots {own : Bool} {v : AV} : adopt own (st.slots e) d v = ((adopt own st d v).1, (adopt own st d v).2.slots e) := by
  unfold adopt
  cases own <;> try rfl
  cases v <;> rfl
theorem aCall_slots {own : Bool} {f : Nat} {args : List AV} {ts : List Nat} : aCall L own Γ (st.slots e) d f args ts = (aCall L own Γ st d f args ts).map fun p => (p.1, p.2.slots e) := by
  unfold aCall
  rw [lendAll_slots]
  refine map_bind_slots fun l => map_ite_slots (map_bind_slots fun q => ?_) rfl
  obtain ⟨v, r⟩ := q
  simp only
  rw [giveBack_slots]
  cases giveBack st (l.map (·.2.2)) r with
  | none => rfl
  | some st' => simp only [Option.map_some, Option.bind_eq_bind, Option.bind_some, adopt_slots]
theorem roCall_slots {f : Nat} {args : List AV} {ts : List Nat} : roCall L Γ (st.slots e) f args ts = (roCall L Γ st f args ts).map fun p => (p.1, p.2.slots e) := by
  unfold roCall
  rw [lendAll_slots]
  refine map_bind_slots fun l => map_ite_slots (map_bind_slots fun q => ?_) rfl
  obtain ⟨v, r⟩ := q
  exact map_ite_slots rfl rfl
/-! calls that take the memory with them look at blocks by their keys alone -/
theorem visit_ag {rd : Option (List Nat)} {s s' : St} (h : ∀ k, okKey rd k = true → aget k s'.heap = aget k s.heap) (g : Nat × Nat) : ∀ (n : Nat) (wl : List (AV × Nat)) (pk : Pk), visit rd s' g n wl pk = visit rd s g n wl pk
  | n, [], pk => by unfold visit; rfl
  | 0, _ :: _, pk => by unfold visit; rfl
  | n + 1, (v, p) :: rest, pk => by
    unfold visit
    cases refOf v with
    | none => exact visit_ag h g n _ _
    | some q =>
      obtain ⟨k, g0⟩ := q
      simp only
      cases hk : okKey rd k with
      | false => simp only [visit_ag h g n, Bool.false_eq_true, if_false]
      | true => simp only [visit_ag h g n, h k hk]

theorem packed_ag {s s' : St} (pk : Pk) : ∀ l : Pk, (∀ x ∈ l, aget x.1 s'.heap = aget x.1 s.heap) → packed s' pk l = packed s pk l
  | [], _ => rfl
  | (k, g, k', g') :: l, h => by
    have h0 := h _ List.mem_cons_self
    simp only at h0
    simp only [packed, h0, packed_ag pk l fun x hx => h x (List.mem_cons_of_mem _ hx)]

theorem backPk_ag {s s' : St} (ht : s'.tag = s.tag) (hn : s'.next = s.next) (d tag : Nat) (pk : Pk) (roots : List Nat) : ∀ r : List (Option (List AV)), backPk s' d tag pk roots r = backPk s d tag pk roots r
  | [] => rfl
  | none :: r => rfl
  | some [] :: r => rfl
  | some (c :: cs) :: r => by
    cases c <;> simp only [backPk]
    simp only [backPk_ag ht hn d tag pk roots r, ht, hn]

theorem backOk_ag {s s' : St} (roots : List Nat) : ∀ (pk : Pk) (r : List (Option (List AV))), (∀ x ∈ pk, aget x.2.2.1 s'.heap = aget x.2.2.1 s.heap) → backOk s' roots pk r = backOk s roots pk r
  | (k', g, k2, g2) :: l, some (c :: cells) :: r, h => by
    have h0 := h _ List.mem_cons_self
    simp only at h0
    simp only [backOk, lenOf, h0, backOk_ag roots l r fun x hx => h x (List.mem_cons_of_mem _ hx)]
  | (k', g, k2, g2) :: l, some [] :: r, _ => rfl
  | (k', g, k2, g2) :: l, none :: r, _ => rfl
  | (k', g, k2, g2) :: l, [], _ => rfl
  | [], [], _ => rfl
  | [], _ :: _, _ => rfl

theorem aget_filterE {α : Type} (k : Nat) (f : Nat → Bool) : ∀ l : List (Nat × α), aget k (l.filter fun p => f p.1) = if f k then aget k l else none
  | [] => by simp [aget]
  | (j, u) :: l => by
    simp only [List.filter_cons]
    by_cases e : j = k
    · subst e
      by_cases hf : f j = true
      · simp [hf, aget]
      · simp [hf, aget, aget_filterE j f l]
    · by_cases hf : f j = true
      · simp only [hf, if_true, aget, if_neg e, aget_filterE k f l]
      · simp only [hf, if_false, aget, if_neg e, aget_filterE k f l, Bool.false_eq_true]

theorem hCall_slots {rd : Option (List Nat)} {f : Nat} {args : List AV} : hCall rd Γ (st.slots e) d f args = (hCall rd Γ st d f args).map fun p => (p.1, p.2.slots e) := by
  unfold hCall
  rw [visit_ag (s := st) (s' := st.slots e) (fun _ _ => rfl)]
  refine map_bind_slots fun pk => map_ite_slots ?_ rfl
  rw [packed_ag (s := st) (s' := st.slots e) _ _ (fun _ _ => rfl)]
  refine map_bind_slots fun l => map_bind_slots fun q => ?_
  obtain ⟨v, r⟩ := q
  simp only
  rw [backPk_ag (s := st) (s' := st.slots e) rfl rfl]
  refine map_bind_slots fun bk => ?_
  rw [backOk_ag (s := st) (s' := st.slots e) _ _ _ (fun _ _ => rfl)]
  exact map_ite_slots rfl rfl

theorem aBuiltin_slots {b : Builtin} {ts : List Nat} {args : List AV} : aBuiltin L (st.slots e) d b ts args = (aBuiltin L st d b ts args).map fun p => (p.1, p.2.slots e) := by
  unfold aBuiltin
  split
  · rename_i t _ x
    refine map_bind_slots fun i => ?_
    split
    · cases x <;> rfl
    · split
      · rfl
      · cases slLen x <;> rfl
    · rfl
    · rfl
  · exact map_bind_slots fun el => map_ite_slots aAppend_slots rfl
  · refine map_bind_slots fun el => map_bind_slots fun el' => ?_
    rw [slCells_slots]
    exact map_bind_slots fun q => map_bind_slots (x := blkOf st _ _) fun cells => map_ite_slots (by rw [putCells_slots]; rfl) rfl
  · exact map_bind_slots fun el => map_bind_slots (x := blkOf st _ _) fun cells => map_ite_slots (by rw [putCells_slots]; rfl) rfl
  · exact map_bind_slots fun q => map_bind_slots (x := mapOf st _ _) fun r => map_ite_slots (map_bind_slots fun p => by simp only [putCells_slots]; rfl) rfl
  · rfl
  · rfl
  · rfl

theorem map_operand {ps : List Operand} (h : ∀ x ∈ ps, operand (st.slots e) x = operand st x) : ps.map (operand (st.slots e)) = ps.map (operand st) := List.map_congr_left h

/-- An operation with other slots, of which its operands are the same. -/
theorem shorten_slots {l : List AV} : shorten (st.slots e) l = (shorten st l).map fun p => (p.1, p.2.slots e) := by
  unfold shorten
  split
  · rename_i s g z o m r
    show (blkOf st s g).bind _ = ((blkOf st s g).bind _).map _
    cases blkOf st s g with
    | none => rfl
    | some cells =>
      simp only [Option.bind_some]
      split <;> rfl
  · rfl

theorem denOp_slots (h : ∀ x ∈ op.operands, operand (st.slots e) x = operand st x) : denOp L K Γ (st.slots e) d ty op = (denOp L K Γ st d ty op).map fun p => (p.1, p.2.slots e) := by
  cases op <;> simp only [Op.operands] at h <;> simp only [denOp] <;> first | rfl | skip
  case makeMap t hint =>
    cases hint with
    | some _ => rfl
    | none => exact map_bind_slots fun q => rfl
  case lookup t x ix ok =>
    rw [h x (by simp), h ix (by simp)]
    have hm : ∀ v, mapArg (st.slots e) v = mapArg st v := fun v => by cases v <;> rfl
    simp only [hm]
    exact map_bind_slots fun q => map_bind_slots fun j => map_bind_slots fun r => map_bind_slots fun p => rfl
  case mapUpdate t x k v =>
    rw [h x (by simp), h k (by simp), h v (by simp)]
    refine map_bind_slots fun q => ?_
    cases operand st x <;> simp only [] <;> try rfl
    exact map_bind_slots (x := mapOf st _ _) fun r => map_ite_slots (map_bind_slots fun p => by simp only [putCells_slots]; rfl) rfl
  case move x => rw [h x (by simp)]; rfl
  case assign x =>
    rw [h x (by simp)]
    split
    · split
      · cases slElem L ty <;> rfl
      · rfl
    · rfl
  case pick x y z =>
    rw [h x (by simp), h y (by simp), h z (by simp)]
    split <;> rfl
  case alloc t => exact map_bind_slots fun i => rfl
  case box t x =>
    rw [h x (by simp)]
    split <;> rfl
  case build t ps =>
    have hp : parts (st.slots e) ps = parts st ps := List.map_congr_left fun p hp => by rw [h p.2 (by simp; exact ⟨p.1, by simpa using hp⟩)]
    rw [hp]
    refine map_bind_slots fun i => ?_
    split
    · exact map_bind_slots fun cs => rfl
    · exact map_bind_slots fun j => map_bind_slots fun cs => rfl
    · rfl
  case buildSlice t n ps =>
    have hp : parts (st.slots e) ps = parts st ps := List.map_congr_left fun p hp => by rw [h p.2 (by simp; exact ⟨p.1, by simpa using hp⟩)]
    rw [hp]
    refine map_bind_slots fun i => ?_
    split
    · exact map_bind_slots fun cs => rfl
    · rfl
  case load t x =>
    rw [h x (by simp)]
    split
    · rfl
    · refine map_bind_slots fun i => ?_
      rw [gLoad_slots]
      exact map_bind_slots fun v => rfl
  case store t x y =>
    rw [h x (by simp), h y (by simp)]
    refine map_ite_slots rfl (map_bind_slots fun i => ?_)
    rw [aStore_slots]
    simp only [Option.bind_eq_bind]
    cases aStore i st (operand st x) (operand st y) <;> rfl
  case nilCheck x =>
    rw [h x (by simp)]
    split <;> rfl
  case binOp o t x y _ =>
    rw [h x (by simp), h y (by simp)]
    cases aBinN L t o (isConstO x || isConstO y) (operand st x) (operand st y) <;> rfl
  case unOp o t x =>
    rw [h x (by simp)]
    cases aUn o (operand st x) <;> rfl
  case typeAssert x q t ok =>
    rw [h x (by simp)]
    cases aAs L t ok (operand st x) <;> rfl
  case convert s t x =>
    rw [h x (by simp)]
    refine map_bind_slots fun i => map_bind_slots fun j => ?_
    split
    · rfl
    · split
      · rfl
      · refine map_bind_slots fun ie => ?_
        split
        · rw [slCells_slots]
          exact map_bind_slots fun q => map_bind_slots fun xs => rfl
        · rfl
    · rfl
  case makeSlice t ln cp =>
    rw [h ln (by simp), h cp (by simp)]
    refine map_bind_slots fun e => ?_
    split
    · split <;> rfl
    · rfl
  case fieldAddr s x f =>
    rw [h x (by simp)]
    refine map_bind_slots fun q => ?_
    obtain ⟨o, j⟩ := q
    simp only
    split
    · rfl
    · split <;> rfl
  case field s x f =>
    rw [h x (by simp)]
    refine map_bind_slots fun q => ?_
    obtain ⟨o, j⟩ := q
    simp only
    split
    · exact map_bind_slots fun v => rfl
    · rfl
  case indexAddr t x ix =>
    rw [h x (by simp), h ix (by simp)]
    split
    · rfl
    · refine map_bind_slots fun i => map_bind_slots fun k => ?_
      split
      · refine map_bind_slots fun j => ?_
        split
        · split <;> rfl
        · rfl
      · refine map_bind_slots fun j => ?_
        split
        · exact map_ite_slots rfl rfl
        · split <;> rfl
        · split <;> rfl
        · rfl
      · rfl
  case index t x ix =>
    rw [h x (by simp), h ix (by simp)]
    refine map_bind_slots fun i => map_bind_slots fun k => ?_
    split
    · refine map_bind_slots fun j => ?_
      split
      · exact map_bind_slots fun v => rfl
      · rfl
    · split
      · rename_i s _ _ _
        cases s[k.toNat]? <;> rfl
      · rfl
    · rfl
  case slice t x lo hi mx =>
    have h1 : lo.map (operand (st.slots e)) = lo.map (operand st) := by cases lo with | none => rfl | some y => simp only [Option.map_some]; rw [h y (by simp)]
    have h2 : hi.map (operand (st.slots e)) = hi.map (operand st) := by cases hi with | none => rfl | some y => simp only [Option.map_some]; rw [h y (by simp)]
    cases mx with
    | some mx =>
      simp only
      rw [h x (by simp), h mx (by simp), h1, h2]
      split
      · rfl
      · refine map_bind_slots fun i => ?_
        split
        · refine map_bind_slots fun j => map_bind_slots fun n => map_bind_slots fun k => map_bind_slots fun hh => map_bind_slots fun l => ?_
          split <;> rfl
        · rfl
    | none =>
    simp only
    rw [h x (by simp), h1, h2]
    split
    · rfl
    · refine map_bind_slots fun i => ?_
      split
      · exact map_bind_slots fun v => rfl
      · refine map_bind_slots fun j => map_bind_slots fun v => rfl
      · refine map_bind_slots fun j => ?_
        split
        · refine map_bind_slots fun cells => ?_
          split
          · exact map_bind_slots fun v => rfl
          · rfl
        · rfl
      · rfl
  case extract x k =>
    rw [h x (by simp)]
    split
    · exact map_bind_slots fun v => rfl
    · rfl
  case makeFunc fn first captured =>
    have hp : captured.toList.map (operand (st.slots e)) = captured.toList.map (operand st) := map_operand fun x hx => h x (by simp at hx ⊢; exact .inr hx)
    rw [hp]
    split
    · split
      · split <;> rfl
      · rfl
    · rfl
  case call c =>
    have hp : c.args.toList.map (operand (st.slots e)) = c.args.toList.map (operand st) := map_operand fun x hx => h x (by simp [Call.operands] at hx ⊢; exact .inr hx)
    rw [hp]
    split
    · refine map_ite_slots ?_ aBuiltin_slots
      rw [shorten_slots]
      cases shorten st (c.args.toList.map (operand st)) with
      | none => rfl
      | some q => simp only [Option.map_some, Option.bind_some]; exact aBuiltin_slots
    · rename_i f hf
      rw [h f (by simp [Call.operands, hf])]
      split
      · exact map_ite_slots hCall_slots (map_ite_slots rfl (map_ite_slots roCall_slots aCall_slots))
      · rfl
    · rfl

/-! ## what an operation leaves -/

theorem putCells_env (st : St) (s : Nat) (cells : List AV) : (putCells st s cells).env = st.env ∧ (putCells st s cells).tag = st.tag := by
  unfold putCells
  split <;> exact ⟨rfl, rfl⟩

/-- Slots and tag stay. -/
def Keeps (st : St) (r : Option (AV × St)) : Prop := ∀ v s, r = some (v, s) → s.env = st.env ∧ s.tag = st.tag

theorem Keeps.bind {α : Type} {x : Option α} {f : α → Option (AV × St)} (h : ∀ a, Keeps st (f a)) : Keeps st (x.bind f) := by
  cases x with
  | none => intro v s hh; cases hh
  | some a => exact h a
theorem Keeps.no : Keeps st none := by intro v s hh; cases hh
theorem Keeps.of {v : AV} {s : St} (h : s.env = st.env ∧ s.tag = st.tag) : Keeps st (some (v, s)) := by intro v' s' hh; simp only [Option.some.injEq, Prod.mk.injEq] at hh; obtain ⟨rfl, rfl⟩ := hh; exact h
theorem Keeps.it {v : AV} : Keeps st (some (v, st)) := .of ⟨rfl, rfl⟩
theorem Keeps.map {α : Type} {x : Option α} {f : α → AV × St} (h : ∀ a, (f a).2.env = st.env ∧ (f a).2.tag = st.tag) : Keeps st (x.map f) := by
  cases x with
  | none => exact .no
  | some a => intro v s hh; simp only [Option.map_some, Option.some.injEq] at hh; have := h a; rw [hh] at this; exact this

theorem roCall_st {f : Nat} {args : List AV} {ts : List Nat} {v : AV} {s : St} (h : roCall L Γ st f args ts = some (v, s)) : s = st := by
  unfold roCall at h
  simp only [Option.bind_eq_bind, Option.bind_eq_some_iff] at h
  obtain ⟨l, _, h⟩ := h
  split at h
  · simp only [Option.bind_eq_some_iff] at h
    obtain ⟨q, _, h⟩ := h
    split at h
    · simp only [Option.some.injEq, Prod.mk.injEq] at h; exact h.2.symm
    · cases h
  · cases h
theorem giveBack_keeps : ∀ {l : List (Option (Nat × Nat × Nat))} {r : List (Option (List AV))} {st s : St}, giveBack st l r = some s → s.env = st.env ∧ s.tag = st.tag
  | [], [], st, s, h => by simp [giveBack] at h; subst h; exact ⟨rfl, rfl⟩
  | [], _ :: _, st, s, h => by simp [giveBack] at h
  | none :: l, [], st, s, h => by simp [giveBack] at h
  | none :: l, none :: r, st, s, h => by simp only [giveBack] at h; exact giveBack_keeps h
  | none :: l, some _ :: r, st, s, h => by simp [giveBack] at h
  | some (k, o, n) :: l, [], st, s, h => by simp [giveBack] at h
  | some (k, o, n) :: l, none :: r, st, s, h => by simp [giveBack] at h
  | some (k, o, n) :: l, some cells :: r, st, s, h => by
    simp only [giveBack] at h
    split at h
    · split at h
      · have := giveBack_keeps h
        have := putCells_env st k (setR (by assumption : Blk).cells o cells)
        exact ⟨by rw [(giveBack_keeps h).1]; exact (putCells_env ..).1, by rw [(giveBack_keeps h).2]; exact (putCells_env ..).2⟩
      · cases h
    · cases h

theorem aAppend_keeps {sz bytes : Nat} {s x : AV} : Keeps st (aAppend sz bytes st d s x) := by
  unfold aAppend
  refine .bind fun q => ?_
  obtain ⟨n, new⟩ := q
  simp only
  split
  · split
    · exact .of ⟨rfl, rfl⟩
    · exact .no
  · refine .bind fun cells => ?_
    split
    · exact .of ⟨rfl, rfl⟩
    · exact .no
  · exact .no

theorem adopt_keeps {own : Bool} {v : AV} {s : St} (h : s.env = st.env ∧ s.tag = st.tag) : Keeps st (some (adopt own s d v)) := by
  unfold adopt
  split
  · split
    · exact .of h
    · exact .of h
  · exact .of h

theorem aBuiltin_keeps {b : Builtin} {ts : List Nat} {args : List AV} : Keeps st (aBuiltin L st d b ts args) := by
  unfold aBuiltin
  split
  · rename_i x
    refine .bind fun i => ?_
    split
    · split <;> first | exact .it | exact .no
    · split
      · exact .no
      · exact .map fun a => ⟨rfl, rfl⟩
    · exact .it
    · exact .no
  · refine .bind fun i => ?_
    split
    · exact aAppend_keeps
    · exact .no
  · refine .bind fun i => .bind fun i' => .bind fun q => .bind fun cells => ?_
    split
    · exact .of (putCells_env ..)
    · exact .no
  · refine .bind fun i => .bind fun cells => ?_
    split
    · exact .of (putCells_env ..)
    · exact .no
  · refine .bind fun i => .bind fun q => ?_
    simp only
    split
    · exact .bind fun p => .of (putCells_env ..)
    · exact .no
  · exact .it
  · exact .it
  · exact .no

theorem denOp_keeps : Keeps st (denOp L K Γ st d ty op) := by
  cases op <;> simp only [denOp] <;> first | exact .no | exact .it | skip
  case assign x =>
    split
    · split
      · exact .map fun a => ⟨rfl, rfl⟩
      · exact .it
    · exact .it
  case pick => split <;> first | exact .it | exact .no
  case alloc => exact .bind fun i => .of ⟨rfl, rfl⟩
  case box => split <;> first | exact .of ⟨rfl, rfl⟩ | exact .no
  case build =>
    refine .bind fun i => ?_
    split
    · exact .bind fun cs => .it
    · exact .bind fun j => .bind fun cs => .it
    · exact .no
  case buildSlice =>
    refine .bind fun i => ?_
    split
    · exact .bind fun cs => .of ⟨rfl, rfl⟩
    · exact .no
  case load =>
    split
    · exact .no
    · exact .bind fun i => .bind fun v => .it
  case store t x y =>
    split
    · exact .no
    refine .bind fun i => ?_
    intro v s hh
    cases ha : aStore i st (operand st x) (operand st y) with
    | none => simp [ha] at hh
    | some s' =>
      simp only [ha, Option.bind_eq_bind, Option.bind_some, Option.some.injEq, Prod.mk.injEq] at hh
      obtain ⟨_, rfl⟩ := hh
      unfold aStore at ha
      split at ha
      · rename_i k g o _
        cases hb : blkOf st k g with
        | none => simp [hb] at ha
        | some cells =>
          simp only [hb, Option.bind_some] at ha
          split at ha
          · simp only [Option.some.injEq] at ha
            subst ha
            exact putCells_env ..
          · cases ha
      · cases ha
  case nilCheck => split <;> first | exact .it | exact .no
  case binOp => exact .map fun a => ⟨rfl, rfl⟩
  case unOp => exact .map fun a => ⟨rfl, rfl⟩
  case typeAssert => exact .map fun a => ⟨rfl, rfl⟩
  case convert =>
    refine .bind fun i => .bind fun j => ?_
    split
    · exact .it
    · split
      · exact .no
      · refine .bind fun ie => ?_
        split
        · exact .bind fun q => .bind fun xs => .it
        · exact .no
    · exact .no
  case makeSlice =>
    refine .bind fun e => ?_
    split
    · split
      · exact .of ⟨rfl, rfl⟩
      · exact .no
    · exact .no
  case fieldAddr =>
    refine .bind fun q => ?_
    obtain ⟨o, j⟩ := q
    simp only
    split
    · exact .no
    · split <;> first | exact .it | exact .no
  case field =>
    refine .bind fun q => ?_
    obtain ⟨o, j⟩ := q
    simp only
    split
    · exact .bind fun v => .it
    · exact .no
  case indexAddr =>
    split
    · exact .no
    · refine .bind fun i => .bind fun k => ?_
      split
      · refine .bind fun j => ?_
        split
        · split <;> first | exact .it | exact .no
        · exact .no
      · refine .bind fun j => ?_
        split
        · split <;> first | exact .it | exact .no
        · split <;> first | exact .it | exact .no
        · split <;> first | exact .it | exact .no
        · exact .no
      · exact .no
  case index =>
    refine .bind fun i => .bind fun k => ?_
    split
    · refine .bind fun j => ?_
      split
      · exact .bind fun v => .it
      · exact .no
    · split
      · exact .map fun a => ⟨rfl, rfl⟩
      · exact .no
    · exact .no
  case slice t x lo hi mx =>
    cases mx with
    | some mx =>
      simp only
      split
      · exact .no
      · refine .bind fun i => ?_
        split
        · refine .bind fun j => .bind fun n => .bind fun k => .bind fun hh => .bind fun l => ?_
          split
          · exact .it
          · exact .no
        · exact .no
    | none =>
    simp only
    split
    · exact .no
    · refine .bind fun i => ?_
      split
      · exact .bind fun v => .it
      · exact .bind fun j => .bind fun v => .it
      · refine .bind fun j => ?_
        split
        · refine .bind fun cells => ?_
          split
          · exact .bind fun v => .it
          · exact .no
        · exact .no
      · exact .no
  case extract =>
    split
    · exact .bind fun v => .it
    · exact .no
  case makeMap t hint =>
    cases hint with
    | some _ => exact .no
    | none => exact .bind fun q => .of ⟨rfl, rfl⟩
  case lookup t x ix ok =>
    refine .bind fun q => .bind fun j => .bind fun r => .bind fun p => .it
  case mapUpdate t x k v =>
    refine .bind fun q => ?_
    split
    · refine .bind fun r => ?_
      split
      · exact .bind fun p => .of (putCells_env ..)
      · exact .no
    · exact .no
  case makeFunc =>
    split
    · split
      · split
        · exact .it
        · exact .no
      · exact .no
    · exact .no
  case call c =>
    split
    · split
      · intro v' s' hh
        simp only [Option.bind_eq_some_iff] at hh
        obtain ⟨⟨l, s1⟩, h1, h2⟩ := hh
        have e := aBuiltin_keeps v' s' h2
        simp only at e
        unfold shorten at h1
        split at h1
        · simp only [Option.bind_eq_some_iff] at h1
          obtain ⟨cells, _, h3⟩ := h1
          split at h3
          · simp only [Option.some.injEq, Prod.mk.injEq] at h3
            obtain ⟨_, rfl⟩ := h3
            exact e
          · cases h3
        · simp only [Option.some.injEq, Prod.mk.injEq] at h1
          obtain ⟨_, rfl⟩ := h1
          exact e
      exact aBuiltin_keeps
    · split
      · split
        · intro v' s' hh
          unfold hCall at hh
          simp only [Option.bind_eq_bind, Option.bind_eq_some_iff] at hh
          obtain ⟨pk, _, hh⟩ := hh
          split at hh
          · simp only [Option.bind_eq_some_iff] at hh
            obtain ⟨l, _, q, _, bk, _, hh⟩ := hh
            split at hh
            · simp only [Option.some.injEq, Prod.mk.injEq] at hh
              obtain ⟨_, rfl⟩ := hh
              exact ⟨rfl, rfl⟩
            · cases hh
          · cases hh
        split
        · exact .no
        split
        · intro v' s' hh
          obtain rfl := (roCall_st hh)
          exact ⟨rfl, rfl⟩
        unfold aCall
        refine .bind fun l => ?_
        split
        · refine .bind fun q => ?_
          obtain ⟨v, r⟩ := q
          simp only
          intro v' s' hh
          cases hg : giveBack st (l.map (·.2.2)) r with
          | none => simp [hg] at hh
          | some s => simp only [hg, Option.bind_eq_bind, Option.bind_some] at hh; exact adopt_keeps (giveBack_keeps hg) v' s' hh
        · exact .no
      · exact .no
    · exact .no

/-! ## which blocks an operation looks at, and which it turns -/

theorem lend_ptrFree {j t : Nat} {v : AV} (ht : ptrFree L t = true) {p : AV × Option (List AV) × Option (Nat × Nat × Nat)} (h : lend L st j v (some t) = some p) : p.2.2 = none := by
  cases v <;> simp only [lend, Option.bind_eq_bind, Option.bind_eq_some_iff, Option.some.injEq] at h <;> first | (cases h; done) | (subst h; rfl) | skip
  · obtain ⟨cells, h1, n, h2, h3⟩ := h
    unfold ptrFree at ht
    simp only [lendSize, Option.bind_eq_bind, Option.bind_eq_some_iff] at h2
    obtain ⟨i, h4, h5⟩ := h2
    rw [h4] at ht
    simp only at ht
    split at h5 <;> rename_i he <;> first | (rw [he] at ht; cases ht; done) | (cases h5; done)
  · obtain ⟨cells, h1, h2⟩ := h
    split at h2
    · simp only [Option.some.injEq] at h2; subst h2; rfl
    · cases h2

theorem lendAll_ptrFree : ∀ {vs : List AV} {ts : List Nat} {j : Nat} {l : List (AV × Option (List AV) × Option (Nat × Nat × Nat))}, vs.length = ts.length → ts.all (ptrFree L) = true → lendAll L st j vs ts = some l → ∀ p ∈ l, p.2.2 = none
  | [], ts, j, l, _, _, h => by simp [lendAll] at h; subst h; simp
  | v :: vs, [], j, l, hl, _, h => by simp at hl
  | v :: vs, t :: ts, j, l, hl, ht, h => by
    simp only [List.all_cons, Bool.and_eq_true] at ht
    unfold lendAll at h
    simp only [List.head?_cons, List.drop_succ_cons, List.drop_zero] at h
    cases h1 : lend L st j v (some t) with
    | none => simp [h1] at h
    | some x =>
      cases h2 : lendAll L st (j + 1) vs ts with
      | none => simp [h1, h2] at h
      | some xs =>
        simp only [h1, h2, Option.bind_eq_bind, Option.bind_some, Option.some.injEq] at h
        subst h
        intro p hp
        rcases List.mem_cons.1 hp with rfl | hp
        · exact lend_ptrFree ht.1 h1
        · exact lendAll_ptrFree (by simpa using hl) ht.2 h2 p hp


def inF (o : Option (List Nat)) (k : Nat) : Prop := okKey o k = true

theorem hits_grp (k : Nat) : hits k (3 * grp k) = true := by
  unfold hits
  rw [show 3 * grp k % 3 = 0 by omega, show 3 * grp k / 3 = grp k by omega]
  exact Nat.beq_refl _
theorem hits_key (k : Nat) : hits k (3 * k + 1) = true := by
  unfold hits
  rw [show (3 * k + 1) % 3 = 1 by omega, show (3 * k + 1) / 3 = k by omega]
  exact Nat.beq_refl _
theorem inF_grp {k : Nat} {l : List Nat} (h : 3 * grp k ∈ l) : inF (some l) k := List.any_eq_true.2 ⟨_, h, hits_grp k⟩
theorem inF_cons {k a : Nat} {l : List Nat} (h : inF (some l) k) : inF (some (a :: l)) k := by
  obtain ⟨c, hc, hk⟩ := List.any_eq_true.1 h
  exact List.any_eq_true.2 ⟨c, List.mem_cons_of_mem _ hc, hk⟩
theorem inF_own {k : Nat} : inF (some [3 * grp k]) k := inF_grp (List.mem_singleton.2 rfl)
theorem inF_key1 {k : Nat} : inF (some [3 * k + 1]) k := List.any_eq_true.2 ⟨_, List.mem_singleton.2 rfl, hits_key k⟩

/-- The same block at a place. -/
def Ag (st st' : St) (k : Nat) : Prop := aget k st'.heap = aget k st.heap

/-- Two states behind the same operation, from two states that are the same where it looks. -/
structure Upd (W : Nat → Prop) (nx : Bool) (st s st' s' : St) : Prop where
  env : s'.env = st'.env
  tag : s'.tag = st'.tag
  ag : ∀ k, Ag st st' k → Ag s s' k
  out : ∀ k, ¬ W k → aget k s.heap = aget k st.heap ∧ aget k s'.heap = aget k st'.heap
  next : st'.next = st.next → s'.next = s.next
  still : nx = false → s.next = st.next ∧ s'.next = st'.next

theorem Upd.refl {W : Nat → Prop} {nx : Bool} {st st' : St} : Upd W nx st st st' st' := ⟨rfl, rfl, fun _ h => h, fun _ _ => ⟨rfl, rfl⟩, fun h => h, fun _ => ⟨rfl, rfl⟩⟩
theorem Upd.mono {W W' : Nat → Prop} {nx : Bool} {st s st' s' : St} (h : Upd W nx st s st' s') (hw : ∀ k, W k → W' k) : Upd W' nx st s st' s' :=
  ⟨h.env, h.tag, h.ag, fun k hk => h.out k fun x => hk (hw k x), h.next, h.still⟩
theorem Upd.trans {W : Nat → Prop} {nx : Bool} {st s r st' s' r' : St} (h : Upd W nx st s st' s') (k : Upd W nx s r s' r') : Upd W nx st r st' r' :=
  ⟨k.env.trans h.env, k.tag.trans h.tag, fun i hi => k.ag i (h.ag i hi), fun i hi => ⟨(k.out i hi).1.trans (h.out i hi).1, (k.out i hi).2.trans (h.out i hi).2⟩, fun e => k.next (h.next e),
    fun e => ⟨(k.still e).1.trans (h.still e).1, (k.still e).2.trans (h.still e).2⟩⟩
theorem Upd.nx {W : Nat → Prop} {st s st' s' : St} {nx : Bool} (h : Upd W false st s st' s') : Upd W nx st s st' s' := ⟨h.env, h.tag, h.ag, h.out, h.next, fun _ => h.still rfl⟩

theorem blkOf_ag {s s' : St} {k : Nat} {g : Nat × Nat} (h : Ag s s' k) : blkOf s' k g = blkOf s k g := by
  unfold blkOf
  rw [h]

theorem mapOf_ag {s s' : St} {k : Nat} {g : Nat × Nat} (h : Ag s s' k) : mapOf s' k g = mapOf s k g := by
  unfold mapOf; rw [h]
theorem newBlk_upd {s s' : St} {d : Nat} {cells : List AV} (ht : s'.tag = s.tag) (hn : s'.next = s.next) : (newBlk s' d cells).1 = (newBlk s d cells).1 ∧ Upd (· = d) true s (newBlk s d cells).2 s' (newBlk s' d cells).2 := by
  refine ⟨by simp [newBlk, ht, hn], rfl, rfl, fun k hk => ?_, fun k hk => ?_, fun e => by simp [newBlk, e], fun e => by cases e⟩
  · simp only [Ag, newBlk, aget_aput, ht, hn]
    split
    · rfl
    · exact hk
  · simp only [newBlk, aget_aput]
    rw [if_neg (fun e => hk e.symm), if_neg (fun e => hk e.symm)]
    exact ⟨rfl, rfl⟩

theorem putCells_upd {s s' : St} {k : Nat} {cells : List AV} (h : Ag s s' k) : Upd (· = k) false s (putCells s k cells) s' (putCells s' k cells) := by
  unfold putCells
  rw [h]
  cases hb : aget k s.heap with
  | none => exact .refl
  | some b =>
    refine ⟨rfl, rfl, fun i hi => ?_, fun i hi => ?_, fun e => e, fun _ => ⟨rfl, rfl⟩⟩
    · simp only [Ag, aget_aput]
      split
      · rfl
      · exact hi
    · simp only [aget_aput]
      rw [if_neg (fun e => hi e.symm), if_neg (fun e => hi e.symm)]
      exact ⟨rfl, rfl⟩

/-- The block that a value leads to. -/
def Leads (v : AV) (k : Nat) : Prop := match v with
  | .ref s _ _ => k = s
  | .msl s _ _ _ _ => k = s
  | _ => False

theorem okRead_leads {r : Option (List Nat)} {v : AV} (h : okRead r v = true) {k : Nat} (hk : Leads v k) : inF r k := by
  cases r with
  | none => trivial
  | some l => cases v <;> simp only [Leads] at hk <;> first | exact hk.elim | (subst hk; exact h)

theorem slCells_ag {s s' : St} {sz : Nat} {v : AV} (h : ∀ k, Leads v k → Ag s s' k) : slCells s' sz v = slCells s sz v := by
  cases v <;> try rfl
  simp only [slCells]
  rw [blkOf_ag (h _ rfl)]

theorem aLoad_ag {s s' : St} {i : TI} {v : AV} (h : ∀ k, Leads v k → Ag s s' k) : aLoad i s' v = aLoad i s v := by
  cases v <;> try rfl
  simp only [aLoad]
  rw [blkOf_ag (h _ rfl)]

theorem gLoad_ag {s s' : St} {rd : List (Nat × List Nat)} {i : TI} {v : AV} (h : ∀ k, Leads v k → Ag s s' k) : gLoad rd i s' v = gLoad rd i s v := by
  cases v <;> simp only [gLoad] <;> exact aLoad_ag h

theorem aStore_upd {s s' r : St} {i : TI} {a v : AV} (h : ∀ k, Leads a k → Ag s s' k) (hs : aStore i s a v = some r) : ∃ r', aStore i s' a v = some r' ∧ Upd (Leads a) false s r s' r' := by
  cases a <;> simp only [aStore] at hs <;> first | (cases hs; done) | skip
  rename_i k g o
  simp only [aStore, Option.bind_eq_some_iff] at hs ⊢
  obtain ⟨cells, h1, h2⟩ := hs
  split at h2
  · rename_i hc
    simp only [Option.some.injEq] at h2
    subst h2
    refine ⟨_, ⟨cells, by rw [blkOf_ag (h k rfl)]; exact h1, by rw [if_pos hc]⟩, (putCells_upd (h k rfl)).mono fun _ e => e⟩
  · cases h2

theorem aAppend_upd {s s' r : St} {sz bytes d : Nat} {a x v : AV} (ht : s'.tag = s.tag) (hn : s'.next = s.next) (h : ∀ k, Ag s s' k) (hs : aAppend sz bytes s d a x = some (v, r)) :
    ∃ r', aAppend sz bytes s' d a x = some (v, r') ∧ Upd (fun _ => True) true s r s' r' := by
  unfold aAppend at hs ⊢
  rw [slCells_ag (fun k _ => h k)]
  simp only [Option.bind_eq_bind, Option.bind_eq_some_iff] at hs ⊢
  obtain ⟨⟨n, new⟩, h1, h2⟩ := hs
  cases a <;> simp only at h2 <;> first | (cases h2; done) | skip
  · rename_i site g z o m
    simp only [Option.bind_eq_some_iff] at h2
    obtain ⟨cells, h3, h4⟩ := h2
    split at h4
    · rename_i hc
      simp only [Option.some.injEq, Prod.mk.injEq] at h4
      obtain ⟨rfl, rfl⟩ := h4
      obtain ⟨e1, e2⟩ := newBlk_upd (d := site) (cells := cells.drop o ++ new) ht hn
      refine ⟨_, ⟨(n, new), h1, ?_⟩, e2.mono fun _ _ => trivial⟩
      simp only [Option.bind_eq_some_iff]
      refine ⟨cells, by rw [blkOf_ag (h _)]; exact h3, ?_⟩
      rw [if_pos hc, e1]
    · cases h4
  · split at h2
    · rename_i hc
      simp only [Option.some.injEq, Prod.mk.injEq] at h2
      obtain ⟨rfl, rfl⟩ := h2
      obtain ⟨e1, e2⟩ := newBlk_upd (d := d) (cells := new) ht hn
      refine ⟨_, ⟨(n, new), h1, ?_⟩, e2.mono fun _ _ => trivial⟩
      simp only
      rw [if_pos hc, e1]
    · cases h2

theorem lend_ag {s s' : St} {j : Nat} {v : AV} {t : Option Nat} (ht : s'.tag = s.tag) (h : ∀ k, Leads v k → Ag s s' k) : lend L s' j v t = lend L s j v t := by
  cases v <;> try rfl
  · simp only [lend]; rw [blkOf_ag (h _ rfl), ht]
  · simp only [lend]; rw [blkOf_ag (h _ rfl)]

theorem lendAll_ag {s s' : St} (ht : s'.tag = s.tag) : ∀ {vs : List AV} {j : Nat} {ts : List Nat}, (∀ v ∈ vs, ∀ k, Leads v k → Ag s s' k) → lendAll L s' j vs ts = lendAll L s j vs ts
  | [], j, ts, _ => rfl
  | v :: vs, j, ts, h => by
    have ih := lendAll_ag (vs := vs) (j := j + 1) (ts := ts.drop 1) ht (fun u hu => h u (List.mem_cons_of_mem _ hu))
    simp only [lendAll, lend_ag ht (h v (by simp)), ih]

/-- What is lent leads to where the arguments lead. -/
theorem lendAll_leads : ∀ {vs : List AV} {j : Nat} {ts : List Nat} {l : List (AV × Option (List AV) × Option (Nat × Nat × Nat))}, lendAll L st j vs ts = some l → ∀ s o n, some (s, o, n) ∈ l.map (·.2.2) → ∃ v ∈ vs, Leads v s
  | [], j, ts, l, h, s, o, n, hm => by simp [lendAll] at h; subst h; simp at hm
  | v :: vs, j, ts, l, h, s, o, n, hm => by
    simp only [lendAll, Option.bind_eq_bind, Option.bind_eq_some_iff, Option.some.injEq] at h
    obtain ⟨x, h1, xs, h2, rfl⟩ := h
    simp only [List.map_cons, List.mem_cons] at hm
    rcases hm with hm | hm
    · refine ⟨v, by simp, ?_⟩
      cases v <;> simp only [lend, Option.bind_eq_bind, Option.bind_eq_some_iff, Option.some.injEq] at h1 <;> first | (cases h1; done) | (subst h1; simp at hm; done) | skip
      · obtain ⟨cells, k1, n', k2, k3⟩ := h1
        split at k3
        · simp only [Option.some.injEq] at k3
          subst k3
          simp only [Option.some.injEq, Prod.mk.injEq] at hm
          exact hm.1
        · cases k3
      · obtain ⟨cells, k1, k2⟩ := h1
        split at k2
        · simp only [Option.some.injEq] at k2; subst k2; simp at hm
        · cases k2
    · obtain ⟨u, hu, hl⟩ := lendAll_leads h2 s o n hm
      exact ⟨u, by simp [hu], hl⟩

theorem giveBack_upd {W : Nat → Prop} : ∀ {l : List (Option (Nat × Nat × Nat))} {r : List (Option (List AV))} {s s' q : St}, (∀ k o n, some (k, o, n) ∈ l → W k) → (∀ k, W k → Ag s s' k) → giveBack s l r = some q →
    ∃ q', giveBack s' l r = some q' ∧ Upd W false s q s' q'
  | [], [], s, s', q, _, _, h => by simp [giveBack] at h; subst h; exact ⟨s', rfl, .refl⟩
  | [], _ :: _, s, s', q, _, _, h => by simp [giveBack] at h
  | none :: l, [], s, s', q, _, _, h => by simp [giveBack] at h
  | none :: l, none :: r, s, s', q, hl, ha, h => by simp only [giveBack] at h ⊢; exact giveBack_upd (fun k o n hk => hl k o n (by simp [hk])) ha h
  | none :: l, some _ :: r, s, s', q, _, _, h => by simp [giveBack] at h
  | some (k, o, n) :: l, [], s, s', q, _, _, h => by simp [giveBack] at h
  | some (k, o, n) :: l, none :: r, s, s', q, _, _, h => by simp [giveBack] at h
  | some (k, o, n) :: l, some cells :: r, s, s', q, hl, ha, h => by
    have hk := hl k o n (by simp)
    simp only [giveBack] at h ⊢
    rw [ha k hk]
    cases hb : aget k s.heap with
    | none => rw [hb] at h; cases h
    | some b =>
      rw [hb] at h
      simp only at h ⊢
      by_cases hc : cells.length = n
      · rw [if_pos hc] at h ⊢
        have u := (putCells_upd (cells := setR b.cells o cells) (ha k hk)).mono (W' := W) fun i e => e ▸ hk
        obtain ⟨q', h1, h2⟩ := giveBack_upd (fun k o n hk => hl k o n (by simp [hk])) (fun i hi => u.ag i (ha i hi)) h
        exact ⟨q', h1, u.trans h2⟩
      · rw [if_neg hc] at h; cases h

theorem aCall_upd {s s' r : St} {own : Bool} {d f : Nat} {args : List AV} {ts : List Nat} {v : AV} {W : Nat → Prop} (ht : s'.tag = s.tag) (hn : own = true → s'.next = s.next)
    (ha : ∀ u ∈ args, ∀ k, Leads u k → Ag s s' k) (hW : ∀ l, lendAll L s 0 args ts = some l → ∀ k o n, some (k, o, n) ∈ l.map (·.2.2) → W k) (hd : own = true → W d) (hWa : ∀ k, W k → Ag s s' k)
    (hs : aCall L own Γ s d f args ts = some (v, r)) : ∃ r', aCall L own Γ s' d f args ts = some (v, r') ∧ Upd W own s r s' r' := by
  unfold aCall at hs ⊢
  rw [lendAll_ag ht ha]
  simp only [Option.bind_eq_bind, Option.bind_eq_some_iff] at hs ⊢
  obtain ⟨l, h1, h2⟩ := hs
  split at h2
  · rename_i hc
    simp only [Option.bind_eq_some_iff] at h2
    obtain ⟨⟨u, lt⟩, h3, q, h4, h5⟩ := h2
    obtain ⟨q', k1, k2⟩ := giveBack_upd (hW l h1) hWa h4
    simp only [Option.some.injEq] at h5
    have key : ∃ r', adopt own q' d u = (v, r') ∧ Upd W own s r s' r' := by
      unfold adopt at h5 ⊢
      cases own with
      | false =>
        simp only [Bool.false_eq_true, if_false, Prod.mk.injEq] at h5 ⊢
        obtain ⟨rfl, rfl⟩ := h5
        exact ⟨q', ⟨rfl, rfl⟩, k2⟩
      | true =>
        simp only [if_true] at h5 ⊢
        have hq : q'.next = q.next := k2.next (hn rfl)
        have hqt : q'.tag = q.tag := by
          rw [k2.tag, ht]
          exact (giveBack_keeps h4).2.symm
        cases u <;> simp only [Prod.mk.injEq] at h5 ⊢ <;> first | (obtain ⟨rfl, rfl⟩ := h5; exact ⟨q', ⟨rfl, rfl⟩, k2.nx⟩) | skip
        obtain ⟨rfl, rfl⟩ := h5
        obtain ⟨e1, e2⟩ := newBlk_upd (d := d) (cells := (by assumption)) hqt hq
        exact ⟨_, ⟨by rw [e1], rfl⟩, k2.nx.trans (e2.mono fun i e => by subst e; exact hd rfl)⟩
    obtain ⟨r', e1, e2⟩ := key
    refine ⟨r', ⟨l, h1, ?_⟩, e2⟩
    rw [if_pos hc]
    simp only [Option.bind_eq_some_iff, Option.some.injEq]
    refine ⟨(u, lt), by rw [ht]; exact h3, q', k1, e1⟩
  · cases h2

theorem roCall_upd {s s' r : St} {f : Nat} {args : List AV} {ts : List Nat} {v : AV} {W : Nat → Prop} {nx : Bool} (ht : s'.tag = s.tag)
    (ha : ∀ u ∈ args, ∀ k, Leads u k → Ag s s' k) (hs : roCall L Γ s f args ts = some (v, r)) : ∃ r', roCall L Γ s' f args ts = some (v, r') ∧ Upd W nx s r s' r' := by
  obtain rfl := roCall_st hs
  refine ⟨s', ?_, .refl⟩
  unfold roCall at hs ⊢
  rw [lendAll_ag ht ha, ht]
  simp only [Option.bind_eq_bind, Option.bind_eq_some_iff] at hs ⊢
  obtain ⟨l, h1, h2⟩ := hs
  refine ⟨l, h1, ?_⟩
  split at h2
  · rename_i hc
    rw [if_pos hc]
    simp only [Option.bind_eq_some_iff] at h2 ⊢
    obtain ⟨q, h3, h4⟩ := h2
    refine ⟨q, h3, ?_⟩
    split at h4
    · rename_i hq
      rw [if_pos hq]
      simp only [Option.some.injEq, Prod.mk.injEq, and_true] at h4
      rw [h4]
    · cases h4
  · cases h2

theorem inF_key {rd : Option (List Nat)} {k : Nat} : inF rd k ↔ okKey rd k = true := Iff.rfl

theorem hCall_upd {rd : Option (List Nat)} {s s' r : St} {d f : Nat} {args : List AV} {v : AV} (ht : s'.tag = s.tag) (hn : s'.next = s.next) (ha : ∀ k, inF rd k → Ag s s' k)
    (hs : hCall rd Γ s d f args = some (v, r)) : ∃ r', hCall rd Γ s' d f args = some (v, r') ∧ Upd (inF rd) true s r s' r' := by
  have hk : ∀ k, okKey rd k = true → aget k s'.heap = aget k s.heap := fun k h => ha k (inF_key.2 h)
  unfold hCall at hs ⊢
  rw [visit_ag hk, ht]
  simp only [Option.bind_eq_bind, Option.bind_eq_some_iff] at hs ⊢
  obtain ⟨pk, h1, hs⟩ := hs
  have hpk := visit_stamp h1 (by simp)
  simp only [h1, Option.some.injEq, exists_eq_left']
  split at hs
  · rename_i hc
    rw [if_pos hc]
    simp only [Option.bind_eq_some_iff] at hs ⊢
    obtain ⟨l, h2, q, h3, bk, h4, hs⟩ := hs
    obtain ⟨u, rr⟩ := q
    rw [packed_ag (s := s) (s' := s') pk pk fun x hx => hk _ (hpk x hx).2]
    simp only [h2, h3, backPk_ag ht hn, h4, Option.some.injEq, exists_eq_left']
    split at hs
    · rename_i hb
      have hb' := hb
      rw [Bool.and_eq_true] at hb'
      have hbk : ∀ x ∈ bk, okKey rd x.2.2.1 = true := fun x hx => List.all_eq_true.1 hb'.1 _ (List.mem_map_of_mem (f := fun y => y.2.2.1) hx)
      rw [backOk_ag (s := s) (s' := s') _ _ _ fun x hx => hk _ (hbk x hx), if_pos hb]
      simp only [Option.some.injEq, Prod.mk.injEq] at hs
      obtain ⟨rfl, rfl⟩ := hs
      simp only [Option.some.injEq, Prod.mk.injEq, true_and, exists_eq_left']
      have hbh : ∀ k, okKey rd k = false → aget k (backHeap bk bk rr) = none := by
        intro k hkf
        have : ∀ (l : Pk) (r : List (Option (List AV))), (∀ x ∈ l, okKey rd x.2.2.1 = true) → aget k (backHeap bk l r) = none := by
          intro l
          induction l with
          | nil => intro r _; simp [backHeap, aget]
          | cons x l ih =>
            intro r hl
            obtain ⟨x1, x2, x3, x4⟩ := x
            have h0 := hl _ List.mem_cons_self
            simp only at h0
            cases r with
            | nil => simp [backHeap, aget]
            | cons y r => cases y with
              | none => simp [backHeap, aget]
              | some cs => cases cs with
                | nil => simp [backHeap, aget]
                | cons c cs =>
                  simp only [backHeap, aget]
                  rw [if_neg (fun e => by rw [e, hkf] at h0; cases h0)]
                  exact ih r fun x hx => hl x (List.mem_cons_of_mem _ hx)
        exact this bk rr hbk
      have outs : ∀ (h : List (Nat × Blk)) k, ¬ inF rd k → aget k (backHeap bk bk rr ++ h.filter fun p => !(pk.map (·.1)).contains p.1 && !(bk.map (·.2.2.1)).contains p.1) = aget k h := by
        intro h k hni
        have hkf : okKey rd k = false := by
          cases e : okKey rd k with
          | false => rfl
          | true => exact (hni (inF_key.2 e)).elim
        rw [aget_append, hbh k hkf, Option.none_or, aget_filterE k (fun k => !(pk.map (·.1)).contains k && !(bk.map (·.2.2.1)).contains k), if_pos]
        simp only [Bool.and_eq_true, Bool.not_eq_true', List.contains_eq_mem, decide_eq_false_iff_not, List.mem_map, not_exists, not_and]
        refine ⟨fun x hx e => ?_, fun x hx e => ?_⟩
        · have := (hpk x hx).2; rw [e, hkf] at this; cases this
        · have := hbk x hx; rw [e, hkf] at this; cases this
      refine ⟨rfl, ht.symm, fun k hk => ?_, fun k hk => ⟨outs _ k hk, outs _ k hk⟩, fun _ => by simp only [hn], fun e => by cases e⟩
      simp only [Ag, aget_append]
      rw [aget_filterE k (fun k => !(pk.map (·.1)).contains k && !(bk.map (·.2.2.1)).contains k), aget_filterE k (fun k => !(pk.map (·.1)).contains k && !(bk.map (·.2.2.1)).contains k), hk]
    · cases hs
  · cases hs

theorem local_same {s s' : St} {W : Nat → Prop} {nx : Bool} {v u : AV} {r : St} (h : (u, s) = (v, r)) : ∃ r', some (u, s') = some (v, r') ∧ Upd W nx s r s' r' := by
  simp only [Prod.mk.injEq] at h
  obtain ⟨rfl, rfl⟩ := h
  exact ⟨s', rfl, .refl⟩


/-- An operation in two states that have the same slots, and the same blocks where it looks. -/
theorem append_upd {s s' : St} {ts : List Nat} {args : List AV} {v : AV} {r : St} (ht : s'.tag = s.tag) (hn : s'.next = s.next) (hk : ∀ k, Ag s s' k) (h : aBuiltin L s d .append ts args = some (v, r)) :
    ∃ r', aBuiltin L s' d .append ts args = some (v, r') ∧ Upd (fun _ => True) true s r s' r' := by
  unfold aBuiltin at h ⊢
  split at h <;> first | (rename_i heq; cases heq; done) | (cases h; done) | skip
  simp only [Option.bind_eq_bind, Option.bind_eq_some_iff] at h
  obtain ⟨e, h1, h2⟩ := h
  simp only [h1, Option.bind_eq_bind, Option.bind_some]
  split at h2
  · rename_i hb
    rw [if_pos hb]
    exact aAppend_upd ht hn hk h2
  · cases h2

theorem shorten_upd {s s' : St} {l l' : List AV} {r : St} (ht : s'.tag = s.tag) (hn : s'.next = s.next) (hk : ∀ k, Ag s s' k) (h : shorten s l = some (l', r)) :
    ∃ r', shorten s' l = some (l', r') ∧ Upd (fun _ => True) true s r s' r' ∧ r'.tag = r.tag ∧ r'.next = r.next := by
  unfold shorten at h ⊢
  split at h
  · rename_i k g z o m rest
    simp only [Option.bind_eq_some_iff] at h
    obtain ⟨cells, h1, h2⟩ := h
    simp only [blkOf_ag (hk _), h1, Option.bind_some]
    split at h2
    · rename_i hc
      rw [if_pos hc]
      simp only [Option.some.injEq, Prod.mk.injEq] at h2
      obtain ⟨rfl, rfl⟩ := h2
      obtain ⟨e1, e2⟩ := newBlk_upd (d := k) (cells := cells.take (o + m * z)) ht hn
      exact ⟨_, by rw [ht, hn], e2.mono fun _ _ => trivial, by simp only [newBlk, ht], by simp only [newBlk, hn]⟩
    · cases h2
  · simp only [Option.some.injEq, Prod.mk.injEq] at h
    obtain ⟨rfl, rfl⟩ := h
    exact ⟨_, rfl, .refl, ht, hn⟩

theorem denOp_local {s' : St} {v : AV} {r : St} (he : s'.env = st.env) (ht : s'.tag = st.tag)
    (hr : ∀ k, inF (fpOf L K d op).rd k → Ag st s' k) (hw : ∀ k, inF (fpOf L K d op).wr k → Ag st s' k) (hn : (fpOf L K d op).nx = true → s'.next = st.next)
    (h : denOp L K Γ st d ty op = some (v, r)) : ∃ r', denOp L K Γ s' d ty op = some (v, r') ∧ Upd (inF (fpOf L K d op).wr) (fpOf L K d op).nx st r s' r' := by
  have ho : ∀ x, operand s' x = operand st x := fun x => by cases x <;> simp [operand, he]
  have hmap : ∀ l : List Operand, l.map (operand s') = l.map (operand st) := fun l => List.map_congr_left fun x _ => ho x
  have hopt : ∀ x : Option Operand, x.map (operand s') = x.map (operand st) := fun x => by cases x <;> simp [ho]
  have hparts : ∀ ps, parts s' ps = parts st ps := fun ps => List.map_congr_left fun p _ => by rw [ho p.2]
  have fresh : ∀ {W : Nat → Prop} {cells : List AV} {mk : Nat × Nat → AV}, W d → s'.next = st.next → (mk (newBlk st d cells).1, (newBlk st d cells).2) = (v, r) →
      ∃ r', some (mk (newBlk s' d cells).1, (newBlk s' d cells).2) = some (v, r') ∧ Upd W true st r s' r' := by
    intro W cells mk hW hnx hh
    simp only [Prod.mk.injEq] at hh
    obtain ⟨rfl, rfl⟩ := hh
    obtain ⟨e1, e2⟩ := newBlk_upd (d := d) (cells := cells) ht hnx
    exact ⟨_, by rw [e1], e2.mono fun k e => by subst e; exact hW⟩
  cases op <;> simp only [denOp] at h ⊢ <;> first | (cases h; done) | skip
  case move x => rw [ho x]; exact local_same (Option.some.inj h)
  case assign x =>
    simp only [fpOf] at hr hw hn ⊢
    rw [ho x]
    split at h
    · rename_i v0 hv0
      split at h
      · rename_i hc
        rw [if_pos hc] at hr hw hn
        simp only [if_pos hc]
        cases hel : slElem L ty with
        | none => simp [hel] at h
        | some e =>
          simp only [hel, Option.map_some] at h ⊢
          exact fresh (mk := fun g => .msl d g e.size 0 0) inF_own (hn rfl) (Option.some.inj h)
      · rename_i hc
        simp only [if_neg hc]
        exact local_same (Option.some.inj h)
    · exact local_same (Option.some.inj h)
  case pick x y z =>
    rw [ho x, ho y, ho z]
    split at h
    · exact local_same (Option.some.inj h)
    · cases h
  case alloc t =>
    simp only [Option.bind_eq_bind, Option.bind_eq_some_iff] at h
    obtain ⟨i, h1, h2⟩ := h
    obtain ⟨r', k1, k2⟩ := fresh (W := inF (fpOf L K d (.alloc t)).wr) (mk := fun g => .ref d g 0) inF_own (hn rfl) (Option.some.inj h2)
    exact ⟨r', by simp only [h1, Option.bind_eq_bind, Option.bind_some]; exact k1, k2⟩
  case box t x =>
    rw [ho x]
    split at h
    · rename_i hc
      obtain ⟨r', k1, k2⟩ := fresh (W := inF (fpOf L K d (.box t x)).wr) (mk := fun g => .ref d g 0) inF_own (hn rfl) (Option.some.inj h)
      exact ⟨r', by rw [if_pos hc]; exact k1, k2⟩
    · cases h
  case build t ps =>
    rw [hparts]
    simp only [Option.bind_eq_bind, Option.bind_eq_some_iff] at h ⊢
    obtain ⟨i, h1, h2⟩ := h
    have : ∃ r', (match i.desc with
        | .strct fs => (fillA (fun k => (fs[k]?).bind fun q => (L q.2).bind fun j => some (q.1, j.size)) i.zero (parts st ps)).bind fun cs => some (AV.agg cs, s')
        | .arr _ e => (L e).bind fun j => (fillA (fun k => some (k * j.size, j.size)) i.zero (parts st ps)).bind fun cs => some (AV.agg cs, s')
        | _ => none) = some (v, r') ∧ Upd (inF (fpOf L K d (.build t ps)).wr) (fpOf L K d (.build t ps)).nx st r s' r' := by
      split at h2
      · rename_i fs hd
        simp only [Option.bind_eq_some_iff] at h2
        obtain ⟨cs, h3, h4⟩ := h2
        obtain ⟨r', k1, k2⟩ := local_same (s' := s') (W := inF (fpOf L K d (.build t ps)).wr) (nx := (fpOf L K d (.build t ps)).nx) (Option.some.inj h4)
        refine ⟨r', ?_, k2⟩
        rw [hd]
        simp only [Option.bind_eq_some_iff]
        exact ⟨cs, h3, k1⟩
      · rename_i n e hd
        simp only [Option.bind_eq_some_iff] at h2
        obtain ⟨j, h5, cs, h3, h4⟩ := h2
        obtain ⟨r', k1, k2⟩ := local_same (s' := s') (W := inF (fpOf L K d (.build t ps)).wr) (nx := (fpOf L K d (.build t ps)).nx) (Option.some.inj h4)
        refine ⟨r', ?_, k2⟩
        rw [hd]
        simp only [Option.bind_eq_some_iff]
        exact ⟨j, h5, cs, h3, k1⟩
      · cases h2
    obtain ⟨r', k1, k2⟩ := this
    exact ⟨r', ⟨i, h1, k1⟩, k2⟩
  case buildSlice t n ps =>
    rw [hparts]
    simp only [Option.bind_eq_bind, Option.bind_eq_some_iff] at h
    obtain ⟨e, h1, h2⟩ := h
    split at h2
    · rename_i hc
      simp only [Option.bind_eq_some_iff] at h2
      obtain ⟨cs, h3, h4⟩ := h2
      obtain ⟨r', k1, k2⟩ := fresh (W := inF (fpOf L K d (.buildSlice t n ps)).wr) (mk := fun g => .msl d g e.size 0 n) inF_own (hn rfl) (Option.some.inj h4)
      refine ⟨r', ?_, k2⟩
      simp only [h1, Option.bind_eq_bind, Option.bind_some, if_pos hc, h3]
      exact k1
    · cases h2
  case load t x =>
    rw [ho x]
    simp only [fpOf] at hr hw hn ⊢
    split at h
    · cases h
    · rename_i hc
      rw [if_neg hc]
      have hc' : okRead (aget d K.reads) (operand st x) = true := by simpa using hc
      have hld : ∀ i, gLoad K.reads i s' (operand st x) = gLoad K.reads i st (operand st x) := fun i => gLoad_ag fun k hk => hr k (okRead_leads hc' hk)
      simp only [hld, Option.bind_eq_bind, Option.bind_eq_some_iff] at h ⊢
      obtain ⟨i, h1, u, h2, h3⟩ := h
      obtain ⟨r', k1, k2⟩ := local_same (s' := s') (Option.some.inj h3)
      exact ⟨r', ⟨i, h1, u, h2, k1⟩, k2⟩
  case store t x y =>
    rw [ho x, ho y]
    simp only [fpOf] at hr hw hn ⊢
    split at h
    · cases h
    · rename_i hc
      rw [if_neg hc]
      have hc' : okStore (K.storeAt x) (operand st x) = true := by simpa using hc
      simp only [Option.bind_eq_bind, Option.bind_eq_some_iff] at h ⊢
      obtain ⟨i, h1, q, h2, h3⟩ := h
      have hl : ∀ k, Leads (operand st x) k → inF (match K.storeAt x with | some s => (⟨some [], some [3 * s + 1], false⟩ : FP) | none => ⟨some [], none, false⟩).wr k := by
        intro k hk
        cases hs : K.storeAt x with
        | none => trivial
        | some s0 =>
          rw [hs] at hc'
          generalize operand st x = ax at hk hc'
          cases ax <;> simp only [Leads] at hk <;> first | exact hk.elim | (simp only [okStore] at hc'; cases hc'; done) | skip
          simp only [okStore, beq_iff_eq] at hc'
          subst hk hc'
          exact inF_key1
      obtain ⟨q', k1, k2⟩ := aStore_upd (s' := s') (fun k hk => hw k (hl k hk)) h2
      simp only [Option.some.injEq, Prod.mk.injEq] at h3
      obtain ⟨rfl, rfl⟩ := h3
      refine ⟨q', ⟨i, h1, q', k1, rfl⟩, ?_⟩
      have := k2.mono hl
      cases hs : K.storeAt x <;> rw [hs] at this <;> exact this
  case nilCheck x =>
    rw [ho x]
    split at h
    · exact local_same (Option.some.inj h)
    · exact local_same (Option.some.inj h)
    · cases h
  case binOp o t x y b =>
    rw [ho x, ho y]
    simp only [Option.map_eq_some_iff] at h ⊢
    obtain ⟨u, h1, h2⟩ := h
    obtain ⟨r', k1, k2⟩ := local_same (s' := s') h2
    exact ⟨r', ⟨u, h1, Option.some.inj k1⟩, k2⟩
  case unOp o t x =>
    rw [ho x]
    simp only [Option.map_eq_some_iff] at h ⊢
    obtain ⟨u, h1, h2⟩ := h
    obtain ⟨r', k1, k2⟩ := local_same (s' := s') h2
    exact ⟨r', ⟨u, h1, Option.some.inj k1⟩, k2⟩
  case typeAssert x q t ok =>
    rw [ho x]
    simp only [Option.map_eq_some_iff] at h ⊢
    obtain ⟨u, h1, h2⟩ := h
    obtain ⟨r', k1, k2⟩ := local_same (s' := s') h2
    exact ⟨r', ⟨u, h1, Option.some.inj k1⟩, k2⟩
  case convert a b x =>
    rw [ho x]
    simp only [Option.bind_eq_bind, Option.bind_eq_some_iff] at h
    obtain ⟨i, h1, j, h2, h3⟩ := h
    simp only [h1, h2, Option.bind_eq_bind, Option.bind_some]
    simp only [fpOf, h1] at hr hw hn ⊢
    split at h3
    · exact local_same (Option.some.inj h3)
    · rename_i e hd1 hd2
      rw [hd1] at hr hw hn
      simp only [hd1] at hr hw hn ⊢
      split at h3
      · cases h3
      · rename_i hc
        rw [if_neg hc]
        have hc' : okRead (aget d K.reads) (operand st x) = true := by simpa using hc
        simp only [Option.bind_eq_some_iff] at h3
        obtain ⟨ie, h4, h5⟩ := h3
        simp only [h4, Option.bind_some]
        split at h5
        · rw [slCells_ag (s := st) (s' := s') (fun k hk => hr k (okRead_leads hc' hk))]
          simp only [Option.bind_eq_some_iff] at h5 ⊢
          obtain ⟨q, h6, xs, h7, h8⟩ := h5
          obtain ⟨r', k1, k2⟩ := local_same (s' := s') (Option.some.inj h8)
          exact ⟨r', ⟨q, h6, xs, h7, k1⟩, k2⟩
        · cases h5
    · cases h3
  case makeSlice t ln cp =>
    rw [ho ln, ho cp]
    simp only [fpOf] at hr hw hn ⊢
    simp only [Option.bind_eq_bind, Option.bind_eq_some_iff] at h
    obtain ⟨e, h1, h2⟩ := h
    simp only [h1, Option.bind_eq_bind, Option.bind_some]
    split at h2
    · rename_i k n k' n' e1 e2
      split at h2
      · rename_i hc
        rw [if_pos hc]
        exact fresh (mk := fun g => .msl d g e.size 0 n.toNat) inF_own (hn trivial) (Option.some.inj h2)
      · cases h2
    · cases h2
  case makeMap t hint =>
    cases hint with
    | some _ => cases h
    | none =>
      simp only [Option.bind_eq_bind, Option.bind_eq_some_iff] at h
      obtain ⟨q, h1, h2⟩ := h
      simp only [Option.some.injEq, Prod.mk.injEq] at h2
      obtain ⟨rfl, rfl⟩ := h2
      obtain ⟨e1, e2⟩ := newBlk_upd (d := d + 500000) (cells := [.mapd [] []]) ht (hn rfl)
      exact ⟨_, by simp only [h1, Option.bind_eq_bind, Option.bind_some]; rw [e1], e2.mono fun k _ => rfl⟩
  case lookup t x ix ok =>
    rw [ho x, ho ix]
    have hm : ∀ v, mapArg s' v = mapArg st v := fun v => by cases v <;> first | rfl | exact mapOf_ag (hr _ rfl)
    simp only [hm, Option.bind_eq_bind, Option.bind_eq_some_iff] at h ⊢
    obtain ⟨q, h1, j, h2, r0, h3, p, h4, h5⟩ := h
    obtain ⟨r', k1, k2⟩ := local_same (s' := s') (Option.some.inj h5)
    exact ⟨r', ⟨q, h1, j, h2, r0, h3, p, h4, k1⟩, k2⟩
  case mapUpdate t x k y =>
    rw [ho x, ho k, ho y]
    have hm : ∀ k g, mapOf s' k g = mapOf st k g := fun k g => mapOf_ag (hr k rfl)
    simp only [Option.bind_eq_bind, Option.bind_eq_some_iff] at h
    obtain ⟨q, h1, h2⟩ := h
    simp only [h1, Option.bind_eq_bind, Option.bind_some]
    split at h2
    · rename_i g σ hs
      simp only [Option.bind_eq_some_iff] at h2
      obtain ⟨r0, h3, h4⟩ := h2
      simp only [hm, h3, Option.bind_some]
      split at h4
      · rename_i hcnd
        simp only [Option.bind_eq_some_iff] at h4
        obtain ⟨p, h5, h6⟩ := h4
        simp only [Option.some.injEq, Prod.mk.injEq] at h6
        obtain ⟨rfl, rfl⟩ := h6
        refine ⟨putCells s' g [.mapd p.1 p.2], by rw [if_pos hcnd, h5]; rfl, ((putCells_upd (hr _ rfl)).mono fun _ _ => rfl).nx⟩
      · cases h4
    · cases h2
  case fieldAddr a x f =>
    rw [ho x]
    simp only [Option.bind_eq_bind, Option.bind_eq_some_iff] at h
    obtain ⟨⟨o, j⟩, h1, h2⟩ := h
    simp only [h1, Option.bind_eq_bind, Option.bind_some]
    simp only at h2
    split at h2
    · cases h2
    · rename_i hz
      rw [if_neg hz]
      split at h2
      · exact local_same (Option.some.inj h2)
      · exact local_same (Option.some.inj h2)
      · cases h2
  case field a x f =>
    rw [ho x]
    simp only [Option.bind_eq_bind, Option.bind_eq_some_iff] at h
    obtain ⟨⟨o, j⟩, h1, h2⟩ := h
    simp only [h1, Option.bind_eq_bind, Option.bind_some]
    simp only at h2
    split at h2
    · simp only [Option.bind_eq_some_iff] at h2 ⊢
      obtain ⟨u, h3, h4⟩ := h2
      obtain ⟨r', k1, k2⟩ := local_same (s' := s') (Option.some.inj h4)
      exact ⟨r', ⟨u, h3, k1⟩, k2⟩
    · cases h2
  case indexAddr t x ix =>
    rw [ho x, ho ix]
    simp only [fpOf] at hr hw hn ⊢
    split at h
    · cases h
    · rename_i hc
      rw [if_neg hc]
      have hc' : okRead (aget d K.reads) (operand st x) = true := by simpa using hc
      simp only [Option.bind_eq_bind, Option.bind_eq_some_iff] at h
      obtain ⟨i, h1, k, h2, h3⟩ := h
      simp only [h1, h2, Option.bind_eq_bind, Option.bind_some]
      split at h3
      · simp only [Option.bind_eq_some_iff] at h3
        obtain ⟨j, h4, h5⟩ := h3
        simp only [h4, Option.bind_some]
        split at h5
        · rename_i hb
          rw [if_pos hb]
          split at h5
          · exact local_same (Option.some.inj h5)
          · exact local_same (Option.some.inj h5)
          · cases h5
        · cases h5
      · simp only [Option.bind_eq_some_iff] at h3
        obtain ⟨j, h4, h5⟩ := h3
        simp only [h4, Option.bind_some]
        split at h5
        · rename_i s0 g z o n heq
          rw [blkOf_ag (s := st) (s' := s') (hr s0 (okRead_leads hc' (by rw [heq]; rfl)))]
          split at h5
          · rename_i hb; rw [if_pos hb]; exact local_same (Option.some.inj h5)
          · cases h5
        · split at h5
          · rename_i hb; rw [if_pos hb]; exact local_same (Option.some.inj h5)
          · cases h5
        · split at h5
          · rename_i hb; rw [if_pos hb]; exact local_same (Option.some.inj h5)
          · cases h5
        · cases h5
      · cases h3
  case index t x ix =>
    rw [ho x, ho ix]
    simp only [Option.bind_eq_bind, Option.bind_eq_some_iff] at h
    obtain ⟨i, h1, k, h2, h3⟩ := h
    simp only [h1, h2, Option.bind_eq_bind, Option.bind_some]
    split at h3
    · simp only [Option.bind_eq_some_iff] at h3
      obtain ⟨j, h4, h5⟩ := h3
      simp only [h4, Option.bind_some]
      split at h5
      · rename_i hb
        rw [if_pos hb]
        simp only [Option.bind_eq_some_iff] at h5 ⊢
        obtain ⟨u, h6, h7⟩ := h5
        obtain ⟨r', k1, k2⟩ := local_same (s' := s') (Option.some.inj h7)
        exact ⟨r', ⟨u, h6, k1⟩, k2⟩
      · cases h5
    · split at h3
      · rename_i hb
        rw [if_pos hb]
        simp only [Option.map_eq_some_iff] at h3 ⊢
        obtain ⟨u, h6, h7⟩ := h3
        obtain ⟨r', k1, k2⟩ := local_same (s' := s') h7
        exact ⟨r', ⟨u, h6, Option.some.inj k1⟩, k2⟩
      · cases h3
    · cases h3
  case slice t x lo hi mx =>
    cases mx with
    | some mx =>
      simp only at h ⊢
      rw [ho x, ho mx, hopt lo, hopt hi]
      simp only [fpOf] at hr hw hn ⊢
      split at h
      · cases h
      · rename_i hc
        rw [if_neg hc]
        simp only [Option.bind_eq_bind, Option.bind_eq_some_iff] at h
        obtain ⟨i, h1, h2⟩ := h
        simp only [h1, Option.bind_eq_bind, Option.bind_some]
        split at h2
        · simp only [Option.bind_eq_some_iff] at h2 ⊢
          obtain ⟨j, h3, n, h4, k, h5, hh, h6, l, h7, h8⟩ := h2
          split at h8
          · rename_i hcc
            obtain ⟨r', k1, k2⟩ := local_same (s' := s') (Option.some.inj h8)
            exact ⟨r', ⟨j, h3, n, h4, k, h5, hh, h6, l, h7, by rw [if_pos hcc]; exact k1⟩, k2⟩
          · cases h8
        · cases h2
    | none =>
    simp only at h ⊢
    rw [ho x, hopt lo, hopt hi]
    simp only [fpOf] at hr hw hn ⊢
    split at h
    · cases h
    · rename_i hc
      rw [if_neg hc]
      have hc' : okRead (aget d K.reads) (operand st x) = true := by simpa using hc
      simp only [Option.bind_eq_bind, Option.bind_eq_some_iff] at h
      obtain ⟨i, h1, h2⟩ := h
      simp only [h1, Option.bind_eq_bind, Option.bind_some]
      split at h2
      · simp only [Option.bind_eq_some_iff] at h2 ⊢
        obtain ⟨u, h3, h4⟩ := h2
        obtain ⟨r', k1, k2⟩ := local_same (s' := s') (Option.some.inj h4)
        exact ⟨r', ⟨u, h3, k1⟩, k2⟩
      · simp only [Option.bind_eq_some_iff] at h2 ⊢
        obtain ⟨j, h3, u, h4, h5⟩ := h2
        obtain ⟨r', k1, k2⟩ := local_same (s' := s') (Option.some.inj h5)
        exact ⟨r', ⟨j, h3, u, h4, k1⟩, k2⟩
      · simp only [Option.bind_eq_some_iff] at h2
        obtain ⟨j, h3, h4⟩ := h2
        simp only [h3, Option.bind_some]
        split at h4
        · rename_i s0 g o heq
          rw [blkOf_ag (s := st) (s' := s') (hr s0 (okRead_leads hc' (by rw [heq]; rfl)))]
          simp only [Option.bind_eq_some_iff] at h4
          obtain ⟨cells, h5, h6⟩ := h4
          simp only [h5, Option.bind_some]
          split at h6
          · rename_i hb
            rw [if_pos hb]
            simp only [Option.bind_eq_some_iff] at h6 ⊢
            obtain ⟨u, h7, h8⟩ := h6
            obtain ⟨r', k1, k2⟩ := local_same (s' := s') (Option.some.inj h8)
            exact ⟨r', ⟨u, h7, k1⟩, k2⟩
          · cases h6
        · cases h4
      · cases h2
  case extract x k =>
    rw [ho x]
    split at h
    · simp only [Option.bind_eq_bind, Option.bind_eq_some_iff] at h ⊢
      obtain ⟨u, h6, h7⟩ := h
      obtain ⟨r', k1, k2⟩ := local_same (s' := s') (Option.some.inj h7)
      exact ⟨r', ⟨u, h6, k1⟩, k2⟩
    · cases h
  case makeFunc fn first captured =>
    rw [hmap]
    split at h
    · split at h
      · rename_i h0
        split at h
        · rename_i h1
          rw [if_pos h0, if_pos h1]
          exact local_same (Option.some.inj h)
        · cases h
      · cases h
    · cases h
  case call c =>
    rw [hmap]
    simp only [fpOf] at hr hw hn ⊢
    cases hcal : c.callee with
    | invoke _ _ => rw [hcal] at h; cases h
    | value f =>
      rw [hcal] at h hr hw hn
      simp only at h hr hw hn ⊢
      rw [ho f]
      cases hf : operand st f <;> rw [hf] at h <;> first | (cases h; done) | skip
      rename_i g captured
      simp only at h ⊢
      by_cases hhp : K.hp.contains d = true
      · rw [if_pos hhp] at h ⊢
        rw [if_pos hhp] at hr hw hn
        rw [if_pos hhp]
        exact hCall_upd ht (hn rfl) hr h
      rw [if_neg hhp] at h ⊢
      rw [if_neg hhp] at hr hw hn
      rw [if_neg hhp]
      split at h
      · cases h
      · rename_i hc
        rw [if_neg hc]
        have hc' : ∀ u ∈ c.args.toList.map (operand st) ++ captured, okRead (aget d K.reads) u = true := by
          have : (c.args.toList.map (operand st) ++ captured).all (okRead (aget d K.reads)) = true := by simpa using hc
          exact List.all_eq_true.1 this
        have hcap : isFn f = true → captured = [] := by
          intro f1
          cases f <;> simp only [isFn, Bool.false_eq_true] at f1
          simp only [operand, AV.fn.injEq] at hf
          exact hf.2.symm
        by_cases hro : K.ro.contains d = true
        · rw [if_pos hro] at h ⊢
          rw [if_pos hro] at hr hw hn
          rw [if_pos hro]
          exact roCall_upd ht (fun u hu k hk => hr k (okRead_leads (hc' u hu) hk)) h
        rw [if_neg hro] at h ⊢
        rw [if_neg hro] at hr hw hn
        rw [if_neg hro]
        generalize isFn f = fb at hr hw hn hcap ⊢
        refine aCall_upd ht hn (fun u hu k hk => hr k (okRead_leads (hc' u hu) hk)) ?_ ?_ hw h
        · intro l hl k o n hm
          by_cases hfree : (fb && (c.args.size == c.argTypes.size && c.argTypes.toList.all (ptrFree L))) = true
          · exfalso
            simp only [Bool.and_eq_true, beq_iff_eq] at hfree
            obtain ⟨f1, f2, f3⟩ := hfree
            have := hcap f1
            subst this
            obtain ⟨q, hq, hqe⟩ := List.mem_map.1 hm
            have := lendAll_ptrFree (by simp [f2]) f3 hl q hq
            rw [this] at hqe
            cases hqe
          · rw [if_neg hfree]
            obtain ⟨u, hu, hl'⟩ := lendAll_leads hl k o n hm
            have := okRead_leads (hc' u hu) hl'
            cases hrd : aget d K.reads with
            | none => trivial
            | some l0 =>
              rw [hrd] at this
              simp only [Option.map_some]
              by_cases hown : K.own.contains d = true
              · rw [if_pos hown]; exact inF_cons this
              · rw [if_neg hown]; exact this
        · intro hown
          by_cases hfree : (fb && (c.args.size == c.argTypes.size && c.argTypes.toList.all (ptrFree L))) = true
          · rw [if_pos hfree, if_pos hown]
            exact inF_own
          · rw [if_neg hfree]
            cases hrd : aget d K.reads with
            | none => trivial
            | some l0 =>
              simp only [Option.map_some, if_pos hown]
              exact inF_grp List.mem_cons_self
    | builtin b =>
      rw [hcal] at h hr hw hn
      simp only at h hr hw hn ⊢
      by_cases hsh : (K.hp.contains d && isAppend b) = true
      · rw [if_pos hsh] at h ⊢
        have hb : b = .append := by
          rw [Bool.and_eq_true] at hsh
          cases b <;> first | rfl | (exfalso; have := hsh.2; cases this; done)
        subst hb
        simp only [Option.bind_eq_some_iff] at h ⊢
        obtain ⟨⟨l, s1⟩, h1, h2⟩ := h
        have hk : ∀ k, Ag st s' k := fun k => hw k rfl
        obtain ⟨s1', g1, g2, g3, g4⟩ := shorten_upd ht (hn rfl) hk h1
        obtain ⟨r', k1, k2⟩ := append_upd g3 g4 (fun k => g2.ag k (hk k)) h2
        exact ⟨r', ⟨(l, s1'), g1, k1⟩, (g2.trans k2).mono fun _ _ => rfl⟩
      rw [if_neg hsh] at h ⊢
      have hlen : b = .len → ∀ {W : Nat → Prop} {nx : Bool}, ∃ r', aBuiltin L s' d b c.argTypes.toList (c.args.toList.map (operand st)) = some (v, r') ∧ Upd W nx st r s' r' := by
        intro hb W nx
        subst hb
        generalize c.argTypes.toList = ts at h ⊢
        generalize c.args.toList.map (operand st) = args at h ⊢
        match ts, args with
        | [], _ => simp [aBuiltin] at h
        | _ :: _, [] => simp [aBuiltin] at h
        | _ :: _, _ :: _ :: _ => simp [aBuiltin] at h
        | t :: ts, [x] =>
          simp only [aBuiltin, Option.bind_eq_bind, Option.bind_eq_some_iff] at h
          obtain ⟨i, hi, h2⟩ := h
          simp only [aBuiltin, hi, Option.bind_eq_bind, Option.bind_some]
          cases hd : i.desc <;> rw [hd] at h2 <;> simp only at h2 ⊢ <;> first | (cases h2; done) | exact local_same (Option.some.inj h2) | skip
          · cases x <;> simp only at h2 ⊢ <;> first | (cases h2; done) | exact local_same (Option.some.inj h2)
          · cases x <;> simp only [slLen, Option.map_eq_some_iff] at h2 ⊢ <;> first | (cases h2; done) | skip
            all_goals
              obtain ⟨n, h3, h4⟩ := h2
              obtain ⟨r', k1, k2⟩ := local_same (s' := s') (W := W) (nx := nx) h4
              exact ⟨r', ⟨n, h3, Option.some.inj k1⟩, k2⟩
      have hmm : b = .min ∨ b = .max → ∀ {W : Nat → Prop} {nx : Bool}, ∃ r', aBuiltin L s' d b c.argTypes.toList (c.args.toList.map (operand st)) = some (v, r') ∧ Upd W nx st r s' r' := by
        intro hb W nx
        unfold aBuiltin at h ⊢
        split at h <;> first | (rcases hb with e | e <;> cases e; done) | exact local_same (Option.some.inj h) | (cases h; done)
      have happ : b = .append → ∀ (hk : ∀ k, Ag st s' k) (hn' : s'.next = st.next), ∃ r', aBuiltin L s' d b c.argTypes.toList (c.args.toList.map (operand st)) = some (v, r') ∧ Upd (fun _ => True) true st r s' r' := by
        intro hb hk hn'
        subst hb
        generalize c.argTypes.toList = ts at h ⊢
        generalize c.args.toList.map (operand st) = args at h ⊢
        unfold aBuiltin at h ⊢
        split at h <;> first | (rename_i heq; cases heq; done) | (cases h; done) | skip
        simp only [Option.bind_eq_bind, Option.bind_eq_some_iff] at h
        obtain ⟨e, h1, h2⟩ := h
        simp only [h1, Option.bind_eq_bind, Option.bind_some]
        split at h2
        · rename_i hb
          rw [if_pos hb]
          exact aAppend_upd ht hn' hk h2
        · cases h2
      have hcopy : b = .copy → ∀ (hk : ∀ k, Ag st s' k), ∃ r', aBuiltin L s' d b c.argTypes.toList (c.args.toList.map (operand st)) = some (v, r') ∧ Upd (fun _ => True) true st r s' r' := by
        intro hb hk
        subst hb
        generalize c.argTypes.toList = ts at h ⊢
        generalize c.args.toList.map (operand st) = args at h ⊢
        unfold aBuiltin at h ⊢
        split at h <;> first | (rename_i heq; cases heq; done) | (cases h; done) | skip
        simp only [Option.bind_eq_bind, Option.bind_eq_some_iff] at h
        obtain ⟨e, h1, e', h2, ⟨n, new⟩, h3, cells, h4, h5⟩ := h
        simp only [h1, h2, Option.bind_eq_bind, Option.bind_some]
        rw [slCells_ag (fun k _ => hk k), blkOf_ag (hk _), h3, h4]
        simp only [Option.bind_some]
        split at h5
        · rename_i hb
          rw [if_pos hb]
          simp only [Option.some.injEq, Prod.mk.injEq] at h5
          obtain ⟨rfl, rfl⟩ := h5
          exact ⟨_, rfl, ((putCells_upd (hk _)).mono fun _ _ => trivial).nx⟩
        · cases h5
      have hclear : b = .clear → ∀ (hk : ∀ k, Ag st s' k), ∃ r', aBuiltin L s' d b c.argTypes.toList (c.args.toList.map (operand st)) = some (v, r') ∧ Upd (fun _ => True) true st r s' r' := by
        intro hb hk
        subst hb
        generalize c.argTypes.toList = ts at h ⊢
        generalize c.args.toList.map (operand st) = args at h ⊢
        unfold aBuiltin at h ⊢
        split at h <;> first | (rename_i heq; cases heq; done) | (cases h; done) | skip
        simp only [Option.bind_eq_bind, Option.bind_eq_some_iff] at h
        obtain ⟨e, h1, cells, h4, h5⟩ := h
        simp only [h1, Option.bind_eq_bind, Option.bind_some]
        rw [blkOf_ag (hk _), h4]
        simp only [Option.bind_some]
        split at h5
        · rename_i hb
          rw [if_pos hb]
          simp only [Option.some.injEq, Prod.mk.injEq] at h5
          obtain ⟨rfl, rfl⟩ := h5
          exact ⟨_, rfl, ((putCells_upd (hk _)).mono fun _ _ => trivial).nx⟩
        · cases h5
      have hdel : b = .delete → ∀ (hk : ∀ k, Ag st s' k), ∃ r', aBuiltin L s' d b c.argTypes.toList (c.args.toList.map (operand st)) = some (v, r') ∧ Upd (fun _ => True) true st r s' r' := by
        intro hb hk
        subst hb
        generalize c.argTypes.toList = ts at h ⊢
        generalize c.args.toList.map (operand st) = args at h ⊢
        unfold aBuiltin at h ⊢
        split at h <;> first | (rename_i heq; cases heq; done) | (cases h; done) | skip
        simp only [Option.bind_eq_bind, Option.bind_eq_some_iff] at h
        obtain ⟨e, h1, q, h4, h5⟩ := h
        simp only [h1, Option.bind_eq_bind, Option.bind_some]
        rw [mapOf_ag (hk _), h4]
        simp only [Option.bind_some]
        split at h5
        · rename_i hb
          rw [if_pos hb]
          simp only [Option.bind_eq_some_iff] at h5
          obtain ⟨p, h6, h7⟩ := h5
          simp only [h6, Option.bind_some]
          simp only [Option.some.injEq, Prod.mk.injEq] at h7
          obtain ⟨rfl, rfl⟩ := h7
          exact ⟨_, rfl, ((putCells_upd (hk _)).mono fun _ _ => trivial).nx⟩
        · cases h5
      have cv : ∀ {nx : Bool} {q : St → Option (AV × St)}, (∃ r', q s' = some (v, r') ∧ Upd (fun _ => True) nx st r s' r') → ∃ r', q s' = some (v, r') ∧ Upd (inF none) nx st r s' r' := fun ⟨r', a, b⟩ => ⟨r', a, b.mono fun _ _ => rfl⟩
      cases b <;> first
        | exact hlen rfl
        | exact hmm (.inl rfl)
        | exact hmm (.inr rfl)
        | exact cv (q := fun z => aBuiltin L z d _ c.argTypes.toList (c.args.toList.map (operand st))) (happ rfl (fun k => hw k rfl) (hn rfl))
        | exact cv (q := fun z => aBuiltin L z d _ c.argTypes.toList (c.args.toList.map (operand st))) (hcopy rfl (fun k => hw k rfl))
        | exact cv (q := fun z => aBuiltin L z d _ c.argTypes.toList (c.args.toList.map (operand st))) (hclear rfl (fun k => hw k rfl))
        | exact cv (q := fun z => aBuiltin L z d _ c.argTypes.toList (c.args.toList.map (operand st))) (hdel rfl (fun k => hw k rfl))
        | exact absurd h (by simp [aBuiltin])

end
end Go.Sim
