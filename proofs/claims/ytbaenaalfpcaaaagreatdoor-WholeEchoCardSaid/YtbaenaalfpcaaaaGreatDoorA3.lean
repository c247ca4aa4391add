/- Part of the proof: an interpreter of the model, proved sound, and what it makes of the functions. -/
import Derived.Test.YtbaenaalfpcaaaaGreatDoorA2
import Derived.Orders
import Derived.Test.YtbaenaalfpcaaaaGreatDoorA1
import Derived.ProofKit
import Derived.OpenShut
import Derived.Carry
import Derived.Below
import Derived.ChangeSame
import Derived.Deep.Slices
import Derived.Handed
set_option linter.unusedVariables false
set_option linter.unusedSimpArgs false
section
namespace Go.Sim
open Go
section
variable {L : Nat → Option TI} {K : Ann} {Γ : Oracle} {st : St} {e : List (Nat × AV)} {d ty : Nat} {op : Op}
abbrev St.slots (st : St) (e : List (Nat × AV)) : St := { st with env := e }
theorem ze1 {sz : Nat} {v : AV} : slCells (st.slots e) sz v = slCells st sz v := by cases v <;> rfl
theorem zq9 {rd : List (Nat × List Nat)} {i : TI} {v : AV} : gLoad rd i (st.slots e) v = gLoad rd i st v := by cases v <;> rfl
theorem zbk {s : Nat} {cells : List AV} : putCells (st.slots e) s cells = (putCells st s cells).slots e := by
 unfold putCells
 simp only
 cases aget s st.heap <;> rfl
theorem za0 {α : Type} {x : Option α} {f g : α → Option (AV × St)} (h : ∀ a, f a = (g a).map fun p => (p.1, p.2.slots e)) :
  x.bind f = (x.bind g).map fun p => (p.1, p.2.slots e) := by
 cases x with
 | none => rfl
 | some a => exact h a
theorem zab {p : Prop} [Decidable p] {a b c d : Option (AV × St)} (h : a = b.map fun p => (p.1, p.2.slots e)) (k : c = d.map fun p => (p.1, p.2.slots e)) :
  (if p then a else c) = (if p then b else d).map fun p => (p.1, p.2.slots e) := by
 by_cases hp : p
 ·simp only [if_pos hp]; exact h
 ·simp only [if_neg hp]; exact k
theorem zmk {i : TI} {a v : AV} : aStore i (st.slots e) a v = (aStore i st a v).map (·.slots e) := by
 cases a <;> try rfl
 rename_i s g o
 show (blkOf st s g).bind _ = ((blkOf st s g).bind _).map _
 cases blkOf st s g with
 | none => rfl
 | some cells =>
  simp only [qO2]
  by_cases hp : v.solid = true ∧ v.cells.length = i.size ∧ o + i.size ≤ cells.length
  ·simp only [if_pos hp, zbk]; rfl
  ·simp only [if_neg hp]; rfl
theorem zm0 {sz bytes : Nat} {s x : AV} : aAppend sz bytes (st.slots e) d s x = (aAppend sz bytes st d s x).map fun p => (p.1, p.2.slots e) := by
 unfold aAppend
 rw [ze1]
 refine za0 fun q => ?_
 obtain ⟨n, new⟩ := q
 cases s <;> try rfl
 ·exact za0 (x := blkOf st _ _) fun cells => zab rfl rfl
 ·exact zab rfl rfl
theorem lend_slots {j : Nat} {v : AV} {t : Option Nat} : lend L (st.slots e) j v t = lend L st j v t := by cases v <;> rfl
theorem zed : ∀ {vs : List AV} {j : Nat} {ts : List Nat}, lendAll L (st.slots e) j vs ts = lendAll L st j vs ts
 | [], j, ts => rfl
 | v :: vs, j, ts => by simp only [lendAll, lend_slots, zed]
theorem zdk : ∀ {l : List (Option (Nat × Nat × Nat))} {r : List (Option (List AV))} {st : St}, giveBack (st.slots e) l r = (giveBack st l r).map (·.slots e)
 | [], [], st => rfl
 | [], _ :: _, st => rfl
 | none :: l, [], st => rfl
 | none :: l, none :: r, st => by simp only [giveBack]; exact zdk
 | none :: l, some _ :: r, st => rfl
 | some (s, o, n) :: l, [], st => rfl
 | some (s, o, n) :: l, none :: r, st => rfl
 | some (s, o, n) :: l, some cells :: r, st => by
  simp only [giveBack]
  cases aget s st.heap with
  | none => rfl
  | some b =>
   simp only
   by_cases hp : cells.length = n
   ·simp only [if_pos hp, zbk]; exact zdk
   ·simp only [if_neg hp]; rfl
theorem zix {own : Bool} {v : AV} : adopt own (st.slots e) d v = ((adopt own st d v).1, (adopt own st d v).2.slots e) := by
 unfold adopt
 cases own <;> try rfl
 cases v <;> rfl
theorem zpe {own : Bool} {f : Nat} {args : List AV} {ts : List Nat} : aCall L own Γ (st.slots e) d f args ts = (aCall L own Γ st d f args ts).map fun p => (p.1, p.2.slots e) := by
 unfold aCall
 rw [zed]
 refine za0 fun l => zab (za0 fun q => ?_) rfl
 obtain ⟨v, r⟩ := q
 simp only
 rw [zdk]
 cases giveBack st (l.map (·.2.2)) r with
 | none => rfl
 | some st' => simp only [Option.map_some, qO3, qO2, zix]
theorem zn7 {f : Nat} {args : List AV} {ts : List Nat} : roCall L Γ (st.slots e) f args ts = (roCall L Γ st f args ts).map fun p => (p.1, p.2.slots e) := by
 unfold roCall
 rw [zed]
 refine za0 fun l => zab (za0 fun q => ?_) rfl
 obtain ⟨v, r⟩ := q
 exact zab rfl rfl
theorem zgk {rd : Option (List Nat)} {V : Pol} {s s' : St} (h : ∀ k, okKey rd k = true → aget k s'.heap = aget k s.heap) (g : Nat × Nat) : ∀ (n : Nat) (wl : List (AV × Nat)) (pk : Pk), visit rd V s' g n wl pk = visit rd V s g n wl pk
 | n, [], pk => by unfold visit; rfl
 | 0, _ :: _, pk => by unfold visit; rfl
 | n + 1, (v, p) :: rest, pk => by
  unfold visit
  cases refOf v with
  | none => exact zgk h g n _ _
  | some q =>
   obtain ⟨k, g0⟩ := q
   simp only
   cases hk : okKey rd k with
   | false => simp only [zgk h g n, Bool.false_and, Bool.false_eq_true, if_false]
   | true => simp only [zgk h g n, h k hk]
theorem zil {u : Dir} {s s' : St} (pk : Pk) : ∀ l : Pk, (∀ x ∈ l, aget x.1 s'.heap = aget x.1 s.heap) → packed u s' pk l = packed u s pk l
 | [], _ => rfl
 | (k, g, k', g') :: l, h => by
  have h0 := h _ List.mem_cons_self
  simp only at h0
  simp only [packed, h0, zil pk l fun x hx => h x (List.mem_cons_of_mem _ hx)]
theorem zjc {s s' : St} (ht : s'.tag = s.tag) (hn : s'.next = s.next) (d tag : Nat) (pk : Pk) (roots : List Nat) : ∀ r : List (Option (List AV)), backPk s' d tag pk roots r = backPk s d tag pk roots r
 | [] => rfl
 | none :: r => rfl
 | some [] :: r => rfl
 | some (c :: cs) :: r => by
  cases c <;> simp only [backPk]
  simp only [zjc ht hn d tag pk roots r, ht, hn]
theorem ziq {s s' : St} (roots : List Nat) : ∀ (pk : Pk) (r : List (Option (List AV))), (∀ x ∈ pk, aget x.2.2.1 s'.heap = aget x.2.2.1 s.heap) → backOk s' roots pk r = backOk s roots pk r
 | (k', g, k2, g2) :: l, some (c :: cells) :: r, h => by
  have h0 := h _ List.mem_cons_self
  simp only at h0
  simp only [backOk, lenOf, h0, ziq roots l r fun x hx => h x (List.mem_cons_of_mem _ hx)]
 | (k', g, k2, g2) :: l, some [] :: r, _ => rfl
 | (k', g, k2, g2) :: l, none :: r, _ => rfl
 | (k', g, k2, g2) :: l, [], _ => rfl
 | [], [], _ => rfl
 | [], _ :: _, _ => rfl
theorem zc8 {α : Type} (k : Nat) (f : Nat → Bool) : ∀ l : List (Nat × α), aget k (l.filter fun p => f p.1) = if f k then aget k l else none
 | [] => by simp [aget]
 | (j, u) :: l => by
  simp only [List.filter_cons]
  by_cases e : j = k
  ·subst e
   by_cases hf : f j = true
   ·simp [hf, aget]
   ·simp [hf, aget, zc8 j f l]
  ·by_cases hf : f j = true
   ·simp only [hf, if_true, aget, if_neg e, zc8 k f l]
   ·simp only [hf, if_false, aget, if_neg e, zc8 k f l, Bool.false_eq_true]
theorem zhz {rd : Option (List Nat)} {V : Pol} {j0 f : Nat} {hd args : List AV} : hCallG j0 hd f rd V Γ (st.slots e) d args = (hCallG j0 hd f rd V Γ st d args).map fun p => (p.1, p.2.slots e) := by
 unfold hCallG
 rw [zgk (s := st) (s' := st.slots e) (fun _ _ => rfl)]
 refine za0 fun pk => zab ?_ rfl
 rw [zil (s := st) (s' := st.slots e) _ _ (fun _ _ => rfl)]
 refine za0 fun l => za0 fun q => ?_
 obtain ⟨v, r⟩ := q
 simp only
 rw [zjc (s := st) (s' := st.slots e) rfl rfl]
 refine za0 fun bk => ?_
 rw [ziq (s := st) (s' := st.slots e) _ _ _ (fun _ _ => rfl)]
 exact zab rfl rfl
theorem zpr {rd : Option (List Nat)} {V : Pol} {f : Nat} {args : List AV} : hCall rd V Γ (st.slots e) d f args = (hCall rd V Γ st d f args).map fun p => (p.1, p.2.slots e) := zhz
theorem zoy {rd : Option (List Nat)} {y : YInfo} {args : List AV} : yCall rd Γ (st.slots e) d y args = (yCall rd Γ st d y args).map fun p => (p.1, p.2.slots e) := by
 unfold yCall
 exact zab zhz rfl
theorem zq3 {rd : Option (List Nat)} {s s' : St} (h : ∀ k, okKey rd k = true → aget k s'.heap = aget k s.heap) : ∀ (n : Nat) (v : AV), view rd s' n v = view rd s n v
 | 0, v => by unfold view; rfl
 | n + 1, v => by
  have ih := zq3 h n
  have ihl : ∀ vs : List AV, viewL rd s' n vs = viewL rd s n vs := fun vs => by
   induction vs with
   | nil => rw [zct, zct]
   | cons u us ihu => rw [zfb, zfb, ih, ihu]
  have hb : ∀ k g, okKey rd k = true → blkOf s' k g = blkOf s k g := fun k g hk => by unfold blkOf; rw [h k hk]
  have hm : ∀ k g, okKey rd k = true → mapOf s' k g = mapOf s k g := fun k g hk => by unfold mapOf; rw [h k hk]
  cases v <;> simp only [view, ihl] <;> try rfl
  ·rename_i k g o
   cases hk : okKey rd k with
   | false => rfl
   | true => simp only [hb k g hk]
  ·rename_i k g z o m
   cases hk : okKey rd k with
   | false => rfl
   | true => simp only [hb k g hk]
  ·rename_i k g
   cases hk : okKey rd k with
   | false => rfl
   | true => simp only [hm k g hk]
theorem zp5 {rd : Option (List Nat)} {own : Bool} {f : Nat} {args : List AV} : vCall rd own Γ (st.slots e) d f args = (vCall rd own Γ st d f args).map fun p => (p.1, p.2.slots e) := by
 unfold vCall
 have : args.map (view rd (st.slots e) 12) = args.map (view rd st 12) := List.map_congr_left fun v _ => zq3 (s := st) (s' := st.slots e) (fun _ _ => rfl) 12 v
 rw [this]
 refine za0 fun q => ?_
 obtain ⟨v, r⟩ := q
 simp only [Option.map_some, zix]
theorem zfm {b : Builtin} {ts : List Nat} {args : List AV} : aBuiltin L (st.slots e) d b ts args = (aBuiltin L st d b ts args).map fun p => (p.1, p.2.slots e) := by
 unfold aBuiltin
 split
 ·rename_i t _ x
  refine za0 fun i => ?_
  split
  ·cases x <;> rfl
  ·split
   ·rfl
   ·cases slLen x <;> rfl
  ·rfl
  ·rfl
 ·exact za0 fun el => zab zm0 rfl
 ·refine za0 fun el => za0 fun el' => ?_
  rw [ze1]
  exact za0 fun q => za0 (x := blkOf st _ _) fun cells => zab (by rw [zbk]; rfl) rfl
 ·exact za0 fun el => za0 (x := blkOf st _ _) fun cells => zab (by rw [zbk]; rfl) rfl
 ·exact za0 fun q => za0 (x := mapOf st _ _) fun r => zab (za0 fun p => by simp only [zbk]; rfl) rfl
 ·rfl
 ·rfl
 ·rfl
theorem zjj {ps : List Operand} (h : ∀ x ∈ ps, operand (st.slots e) x = operand st x) : ps.map (operand (st.slots e)) = ps.map (operand st) := List.map_congr_left h
theorem zly {l : List AV} : shorten (st.slots e) l = (shorten st l).map fun p => (p.1, p.2.slots e) := by
 unfold shorten
 split
 ·rename_i s g z o m r
  show (blkOf st s g).bind _ = ((blkOf st s g).bind _).map _
  cases blkOf st s g with
  | none => rfl
  | some cells =>
   simp only [qO2]
   split <;> rfl
 ·rfl
theorem zq1 (h : ∀ x ∈ op.operands, operand (st.slots e) x = operand st x) : denOp L K Γ (st.slots e) d ty op = (denOp L K Γ st d ty op).map fun p => (p.1, p.2.slots e) := by
 cases op <;> simp only [Op.operands] at h <;> simp only [denOp] <;> first | rfl | skip
 case makeMap t hint =>
  cases hint with
  | some _ => rfl
  | none => exact za0 fun q => rfl
 case lookup t x ix ok =>
  rw [h x (by simp), h ix (by simp)]
  have hm : ∀ v, mapArg (st.slots e) v = mapArg st v := fun v => by cases v <;> rfl
  simp only [hm]
  refine zab rfl ?_
  exact za0 fun q => za0 fun j => za0 fun r => za0 fun p => rfl
 case mapUpdate t x k v =>
  rw [h x (by simp), h k (by simp), h v (by simp)]
  refine za0 fun q => ?_
  cases operand st x <;> simp only [] <;> try rfl
  exact za0 (x := mapOf st _ _) fun r => zab (za0 fun p => by simp only [zbk]; rfl) rfl
 case move x => rw [h x (by simp)]; rfl
 case assign x =>
  rw [h x (by simp)]
  split
  ·split
   ·cases slElem L ty <;> rfl
   ·rfl
  ·rfl
 case pick x y z =>
  rw [h x (by simp), h y (by simp), h z (by simp)]
  split <;> rfl
 case alloc t => exact za0 fun i => rfl
 case box t x =>
  rw [h x (by simp)]
  split <;> rfl
 case build t ps =>
  have hp : parts (st.slots e) ps = parts st ps := List.map_congr_left fun p hp => by rw [h p.2 (by simp; exact ⟨p.1, by simpa using hp⟩)]
  rw [hp]
  refine za0 fun i => ?_
  split
  ·exact za0 fun cs => rfl
  ·exact za0 fun j => za0 fun cs => rfl
  ·rfl
 case buildSlice t n ps =>
  have hp : parts (st.slots e) ps = parts st ps := List.map_congr_left fun p hp => by rw [h p.2 (by simp; exact ⟨p.1, by simpa using hp⟩)]
  rw [hp]
  refine za0 fun i => ?_
  split
  ·exact za0 fun cs => rfl
  ·rfl
 case load t x =>
  rw [h x (by simp)]
  split
  ·rfl
  ·refine za0 fun i => ?_
   rw [zq9]
   exact za0 fun v => rfl
 case store t x y =>
  rw [h x (by simp), h y (by simp)]
  refine zab rfl (za0 fun i => ?_)
  rw [zmk]
  simp only [qO3]
  cases aStore i st (operand st x) (operand st y) <;> rfl
 case nilCheck x =>
  rw [h x (by simp)]
  split <;> rfl
 case binOp o t x y _ =>
  rw [h x (by simp), h y (by simp)]
  cases aBinN L t o (isConstO x || isConstO y) (operand st x) (operand st y) <;> rfl
 case unOp o t x =>
  rw [h x (by simp)]
  cases aUn o (operand st x) <;> rfl
 case typeAssert x q t ok =>
  rw [h x (by simp)]
  cases aAs L t ok (operand st x) <;> rfl
 case convert s t x =>
  rw [h x (by simp)]
  refine za0 fun i => za0 fun j => ?_
  split
  ·rfl
  ·split
   ·rfl
   ·refine za0 fun ie => ?_
    split
    ·rw [ze1]
     exact za0 fun q => za0 fun xs => rfl
    ·rfl
  ·rfl
 case makeSlice t ln cp =>
  rw [h ln (by simp), h cp (by simp)]
  refine za0 fun e => ?_
  split
  ·split <;> rfl
  ·rfl
 case fieldAddr s x f =>
  rw [h x (by simp)]
  refine za0 fun q => ?_
  obtain ⟨o, j⟩ := q
  simp only
  split
  ·rfl
  ·split <;> rfl
 case field s x f =>
  rw [h x (by simp)]
  refine za0 fun q => ?_
  obtain ⟨o, j⟩ := q
  simp only
  split
  ·exact za0 fun v => rfl
  ·rfl
 case sliceToArrayPointer t x =>
  rw [h x (by simp)]
  split
  ·rfl
  ·refine za0 fun i => ?_
   split
   ·split
    ·exact zab rfl rfl
    ·split <;> rfl
    ·split <;> rfl
    ·rfl
   ·rfl
 case indexAddr t x ix =>
  rw [h x (by simp), h ix (by simp)]
  split
  ·rfl
  ·refine za0 fun i => za0 fun k => ?_
   split
   ·refine za0 fun j => ?_
    split
    ·split <;> rfl
    ·rfl
   ·refine za0 fun j => ?_
    split
    ·exact zab rfl rfl
    ·split <;> rfl
    ·split <;> rfl
    ·rfl
   ·rfl
 case index t x ix =>
  rw [h x (by simp), h ix (by simp)]
  refine za0 fun i => za0 fun k => ?_
  split
  ·refine za0 fun j => ?_
   split
   ·exact za0 fun v => rfl
   ·rfl
  ·split
   ·rename_i s _ _ _
    cases s[k.toNat]? <;> rfl
   ·rfl
  ·rfl
 case slice t x lo hi mx =>
  have h1 : lo.map (operand (st.slots e)) = lo.map (operand st) := by cases lo with | none => rfl | some y => simp only [Option.map_some]; rw [h y (by simp)]
  have h2 : hi.map (operand (st.slots e)) = hi.map (operand st) := by cases hi with | none => rfl | some y => simp only [Option.map_some]; rw [h y (by simp)]
  cases mx with
  | some mx =>
   simp only
   rw [h x (by simp), h mx (by simp), h1, h2]
   split
   ·rfl
   ·refine za0 fun i => ?_
    split
    ·refine za0 fun j => za0 fun n => za0 fun k => za0 fun hh => za0 fun l => ?_
     split <;> rfl
    ·rfl
  | none =>
  simp only
  rw [h x (by simp), h1, h2]
  split
  ·rfl
  ·refine za0 fun i => ?_
   split
   ·exact za0 fun v => rfl
   ·refine za0 fun j => za0 fun v => rfl
   ·refine za0 fun j => ?_
    split
    ·refine za0 fun cells => ?_
     split
     ·exact za0 fun v => rfl
     ·rfl
    ·rfl
   ·rfl
 case extract x k =>
  rw [h x (by simp)]
  split
  ·exact za0 fun v => rfl
  ·rfl
 case makeFunc fn first captured =>
  have hp : captured.toList.map (operand (st.slots e)) = captured.toList.map (operand st) := zjj fun x hx => h x (by simp at hx ⊢; exact .inr hx)
  rw [hp]
  split
  ·split
   ·split <;> rfl
   ·rfl
  ·rfl
 case call c =>
  have hp : c.args.toList.map (operand (st.slots e)) = c.args.toList.map (operand st) := zjj fun x hx => h x (by simp [Call.operands] at hx ⊢; exact .inr hx)
  rw [hp]
  split
  ·refine zab ?_ (zab rfl zfm)
   rw [zly]
   cases shorten st (c.args.toList.map (operand st)) with
   | none => rfl
   | some q => simp only [Option.map_some, qO2]; exact zfm
  ·rename_i f hf
   rw [h f (by simp [Call.operands, hf])]
   split
   ·exact zab zoy rfl
   ·exact zab (zab zp5 zpr) (zab rfl (zab zn7 zpe))
   ·rfl
  ·rfl
theorem zbh (st : St) (s : Nat) (cells : List AV) : (putCells st s cells).env = st.env ∧ (putCells st s cells).tag = st.tag := by
 unfold putCells
 split <;> exact ⟨rfl, rfl⟩
def Keeps (st : St) (r : Option (AV × St)) : Prop := ∀ v s, r = some (v, s) → s.env = st.env ∧ s.tag = st.tag
theorem Keeps.bind {α : Type} {x : Option α} {f : α → Option (AV × St)} (h : ∀ a, Keeps st (f a)) : Keeps st (x.bind f) := by
 cases x with
 | none => intro v s hh; cases hh
 | some a => exact h a
theorem Keeps.no : Keeps st none := by intro v s hh; cases hh
theorem Keeps.of {v : AV} {s : St} (h : s.env = st.env ∧ s.tag = st.tag) : Keeps st (some (v, s)) := by intro v' s' hh; simp only [qO1, qO4] at hh; obtain ⟨rfl, rfl⟩ := hh; exact h
theorem Keeps.it {v : AV} : Keeps st (some (v, st)) := .of ⟨rfl, rfl⟩
theorem Keeps.map {α : Type} {x : Option α} {f : α → AV × St} (h : ∀ a, (f a).2.env = st.env ∧ (f a).2.tag = st.tag) : Keeps st (x.map f) := by
 cases x with
 | none => exact .no
 | some a => intro v s hh; simp only [Option.map_some, qO1] at hh; have := h a; rw [hh] at this; exact this
theorem zmw {f : Nat} {args : List AV} {ts : List Nat} {v : AV} {s : St} (h : roCall L Γ st f args ts = some (v, s)) : s = st := by
 unfold roCall at h
 simp only [qO3, qO6] at h
 obtain ⟨l, _, h⟩ := h
 split at h
 ·simp only [qO6] at h
  obtain ⟨q, _, h⟩ := h
  split at h
  ·simp only [qO1, qO4] at h; exact h.2.symm
  ·cases h
 ·cases h
theorem zbl : ∀ {l : List (Option (Nat × Nat × Nat))} {r : List (Option (List AV))} {st s : St}, giveBack st l r = some s → s.env = st.env ∧ s.tag = st.tag
 | [], [], st, s, h => by simp [giveBack] at h; subst h; exact ⟨rfl, rfl⟩
 | [], _ :: _, st, s, h => by simp [giveBack] at h
 | none :: l, [], st, s, h => by simp [giveBack] at h
 | none :: l, none :: r, st, s, h => by simp only [giveBack] at h; exact zbl h
 | none :: l, some _ :: r, st, s, h => by simp [giveBack] at h
 | some (k, o, n) :: l, [], st, s, h => by simp [giveBack] at h
 | some (k, o, n) :: l, none :: r, st, s, h => by simp [giveBack] at h
 | some (k, o, n) :: l, some cells :: r, st, s, h => by
  simp only [giveBack] at h
  split at h
  ·split at h
   ·have := zbl h
    have := zbh st k (setR (by assumption : Blk).cells o cells)
    exact ⟨by rw [(zbl h).1]; exact (zbh ..).1, by rw [(zbl h).2]; exact (zbh ..).2⟩
   ·cases h
  ·cases h
theorem zl5 {sz bytes : Nat} {s x : AV} : Keeps st (aAppend sz bytes st d s x) := by
 unfold aAppend
 refine .bind fun q => ?_
 obtain ⟨n, new⟩ := q
 simp only
 split
 ·split
  ·exact .of ⟨rfl, rfl⟩
  ·exact .no
 ·refine .bind fun cells => ?_
  split
  ·exact .of ⟨rfl, rfl⟩
  ·exact .no
 ·exact .no
theorem zif {own : Bool} {v : AV} {s : St} (h : s.env = st.env ∧ s.tag = st.tag) : Keeps st (some (adopt own s d v)) := by
 unfold adopt
 split
 ·split
  ·exact .of h
  ·exact .of h
 ·exact .of h
theorem zfo {b : Builtin} {ts : List Nat} {args : List AV} : Keeps st (aBuiltin L st d b ts args) := by
 unfold aBuiltin
 split
 ·rename_i x
  refine .bind fun i => ?_
  split
  ·split <;> first | exact .it | exact .no
  ·split
   ·exact .no
   ·exact .map fun a => ⟨rfl, rfl⟩
  ·exact .it
  ·exact .no
 ·refine .bind fun i => ?_
  split
  ·exact zl5
  ·exact .no
 ·refine .bind fun i => .bind fun i' => .bind fun q => .bind fun cells => ?_
  split
  ·exact .of (zbh ..)
  ·exact .no
 ·refine .bind fun i => .bind fun cells => ?_
  split
  ·exact .of (zbh ..)
  ·exact .no
 ·refine .bind fun i => .bind fun q => ?_
  simp only
  split
  ·exact .bind fun p => .of (zbh ..)
  ·exact .no
 ·exact .it
 ·exact .it
 ·exact .no
theorem zhu {rd : Option (List Nat)} {V : Pol} {j0 f : Nat} {hd args : List AV} : Keeps st (hCallG j0 hd f rd V Γ st d args) := by
 intro v' s' hh
 unfold hCallG at hh
 simp only [qO3, qO6] at hh
 obtain ⟨pk, _, hh⟩ := hh
 split at hh
 ·simp only [qO6] at hh
  obtain ⟨l, _, q, _, bk, _, hh⟩ := hh
  split at hh
  ·simp only [qO1, qO4] at hh
   obtain ⟨_, rfl⟩ := hh
   exact ⟨rfl, rfl⟩
  ·cases hh
 ·cases hh
theorem zpm : Keeps st (denOp L K Γ st d ty op) := by
 cases op <;> simp only [denOp] <;> first | exact .no | exact .it | skip
 case assign x =>
  split
  ·split
   ·exact .map fun a => ⟨rfl, rfl⟩
   ·exact .it
  ·exact .it
 case pick => split <;> first | exact .it | exact .no
 case alloc => exact .bind fun i => .of ⟨rfl, rfl⟩
 case box => split <;> first | exact .of ⟨rfl, rfl⟩ | exact .no
 case build =>
  refine .bind fun i => ?_
  split
  ·exact .bind fun cs => .it
  ·exact .bind fun j => .bind fun cs => .it
  ·exact .no
 case buildSlice =>
  refine .bind fun i => ?_
  split
  ·exact .bind fun cs => .of ⟨rfl, rfl⟩
  ·exact .no
 case load =>
  split
  ·exact .no
  ·exact .bind fun i => .bind fun v => .it
 case store t x y =>
  split
  ·exact .no
  refine .bind fun i => ?_
  intro v s hh
  cases ha : aStore i st (operand st x) (operand st y) with
  | none => simp [ha] at hh
  | some s' =>
   simp only [ha, qO3, qO2, qO1, qO4] at hh
   obtain ⟨_, rfl⟩ := hh
   unfold aStore at ha
   split at ha
   ·rename_i k g o _
    cases hb : blkOf st k g with
    | none => simp [hb] at ha
    | some cells =>
     simp only [hb, qO2] at ha
     split at ha
     ·simp only [qO1] at ha
      subst ha
      exact zbh ..
     ·cases ha
   ·cases ha
 case nilCheck => split <;> first | exact .it | exact .no
 case binOp => exact .map fun a => ⟨rfl, rfl⟩
 case unOp => exact .map fun a => ⟨rfl, rfl⟩
 case typeAssert => exact .map fun a => ⟨rfl, rfl⟩
 case convert =>
  refine .bind fun i => .bind fun j => ?_
  split
  ·exact .it
  ·split
   ·exact .no
   ·refine .bind fun ie => ?_
    split
    ·exact .bind fun q => .bind fun xs => .it
    ·exact .no
  ·exact .no
 case makeSlice =>
  refine .bind fun e => ?_
  split
  ·split
   ·exact .of ⟨rfl, rfl⟩
   ·exact .no
  ·exact .no
 case fieldAddr =>
  refine .bind fun q => ?_
  obtain ⟨o, j⟩ := q
  simp only
  split
  ·exact .no
  ·split <;> first | exact .it | exact .no
 case field =>
  refine .bind fun q => ?_
  obtain ⟨o, j⟩ := q
  simp only
  split
  ·exact .bind fun v => .it
  ·exact .no
 case sliceToArrayPointer =>
  split
  ·exact .no
  ·refine .bind fun i => ?_
   split
   ·split
    ·split <;> first | exact .it | exact .no
    ·split <;> first | exact .it | exact .no
    ·split <;> first | exact .it | exact .no
    ·exact .no
   ·exact .no
 case indexAddr =>
  split
  ·exact .no
  ·refine .bind fun i => .bind fun k => ?_
   split
   ·refine .bind fun j => ?_
    split
    ·split <;> first | exact .it | exact .no
    ·exact .no
   ·refine .bind fun j => ?_
    split
    ·split <;> first | exact .it | exact .no
    ·split <;> first | exact .it | exact .no
    ·split <;> first | exact .it | exact .no
    ·exact .no
   ·exact .no
 case index =>
  refine .bind fun i => .bind fun k => ?_
  split
  ·refine .bind fun j => ?_
   split
   ·exact .bind fun v => .it
   ·exact .no
  ·split
   ·exact .map fun a => ⟨rfl, rfl⟩
   ·exact .no
  ·exact .no
 case slice t x lo hi mx =>
  cases mx with
  | some mx =>
   simp only
   split
   ·exact .no
   ·refine .bind fun i => ?_
    split
    ·refine .bind fun j => .bind fun n => .bind fun k => .bind fun hh => .bind fun l => ?_
     split
     ·exact .it
     ·exact .no
    ·exact .no
  | none =>
  simp only
  split
  ·exact .no
  ·refine .bind fun i => ?_
   split
   ·exact .bind fun v => .it
   ·exact .bind fun j => .bind fun v => .it
   ·refine .bind fun j => ?_
    split
    ·refine .bind fun cells => ?_
     split
     ·exact .bind fun v => .it
     ·exact .no
    ·exact .no
   ·exact .no
 case extract =>
  split
  ·exact .bind fun v => .it
  ·exact .no
 case makeMap t hint =>
  cases hint with
  | some _ => exact .no
  | none => exact .bind fun q => .of ⟨rfl, rfl⟩
 case lookup t x ix ok =>
  split
  ·exact .no
  refine .bind fun q => .bind fun j => .bind fun r => .bind fun p => .it
 case mapUpdate t x k v =>
  refine .bind fun q => ?_
  split
  ·refine .bind fun r => ?_
   split
   ·exact .bind fun p => .of (zbh ..)
   ·exact .no
  ·exact .no
 case makeFunc =>
  split
  ·split
   ·split
    ·exact .it
    ·exact .no
   ·exact .no
  ·exact .no
 case call c =>
  split
  ·split
   ·intro v' s' hh
    simp only [qO6] at hh
    obtain ⟨⟨l, s1⟩, h1, h2⟩ := hh
    have e := zfo v' s' h2
    simp only at e
    unfold shorten at h1
    split at h1
    ·simp only [qO6] at h1
     obtain ⟨cells, _, h3⟩ := h1
     split at h3
     ·simp only [qO1, qO4] at h3
      obtain ⟨_, rfl⟩ := h3
      exact e
     ·cases h3
    ·simp only [qO1, qO4] at h1
     obtain ⟨_, rfl⟩ := h1
     exact e
   split
   ·exact .no
   exact zfo
  ·split
   ·split
    ·unfold yCall
     split
     ·exact zhu
     ·exact .no
    ·exact .no
   ·split
    ·split
     ·intro v' s' hh
      unfold vCall at hh
      simp only [qO3, qO6] at hh
      obtain ⟨q, _, hh⟩ := hh
      exact zif ⟨rfl, rfl⟩ v' s' hh
     ·exact zhu
    split
    ·exact .no
    split
    ·intro v' s' hh
     obtain rfl := (zmw hh)
     exact ⟨rfl, rfl⟩
    unfold aCall
    refine .bind fun l => ?_
    split
    ·refine .bind fun q => ?_
     obtain ⟨v, r⟩ := q
     simp only
     intro v' s' hh
     cases hg : giveBack st (l.map (·.2.2)) r with
     | none => simp [hg] at hh
     | some s => simp only [hg, qO3, qO2] at hh; exact zif (zbl hg) v' s' hh
    ·exact .no
   ·exact .no
  ·exact .no
theorem zo3 {j t : Nat} {v : AV} (ht : ptrFree L t = true) {p : AV × Option (List AV) × Option (Nat × Nat × Nat)} (h : lend L st j v (some t) = some p) : p.2.2 = none := by
 cases v <;> simp only [lend, qO3, qO6, qO1] at h <;> first | (cases h; done) | (subst h; rfl) | skip
 ·obtain ⟨cells, h1, n, h2, h3⟩ := h
  unfold ptrFree at ht
  simp only [lendSize, qO3, qO6] at h2
  obtain ⟨i, h4, h5⟩ := h2
  rw [h4] at ht
  simp only at ht
  split at h5 <;> rename_i he <;> first | (rw [he] at ht; cases ht; done) | (cases h5; done)
 ·obtain ⟨cells, h1, h2⟩ := h
  split at h2
  ·simp only [qO1] at h2; subst h2; rfl
  ·cases h2
theorem zej : ∀ {vs : List AV} {ts : List Nat} {j : Nat} {l : List (AV × Option (List AV) × Option (Nat × Nat × Nat))}, vs.length = ts.length → ts.all (ptrFree L) = true → lendAll L st j vs ts = some l → ∀ p ∈ l, p.2.2 = none
 | [], ts, j, l, _, _, h => by simp [lendAll] at h; subst h; simp
 | v :: vs, [], j, l, hl, _, h => by simp at hl
 | v :: vs, t :: ts, j, l, hl, ht, h => by
  simp only [List.all_cons, qO5] at ht
  unfold lendAll at h
  simp only [List.head?_cons, List.drop_succ_cons, List.drop_zero] at h
  cases h1 : lend L st j v (some t) with
  | none => simp [h1] at h
  | some x =>
   cases h2 : lendAll L st (j + 1) vs ts with
   | none => simp [h1, h2] at h
   | some xs =>
    simp only [h1, h2, qO3, qO2, qO1] at h
    subst h
    intro p hp
    rcases List.mem_cons.1 hp with rfl | hp
    ·exact zo3 ht.1 h1
    ·exact zej (by simpa using hl) ht.2 h2 p hp
def inF (o : Option (List Nat)) (k : Nat) : Prop := okKey o k = true
theorem hits_grp (k : Nat) : hits k (3 * grp k) = true := by
 unfold hits
 rw [show 3 * grp k % 3 = 0 by omega, show 3 * grp k / 3 = grp k by omega]
 exact Nat.beq_refl _
theorem hits_key (k : Nat) : hits k (3 * k + 1) = true := by
 unfold hits
 rw [show (3 * k + 1) % 3 = 1 by omega, show (3 * k + 1) / 3 = k by omega]
 exact Nat.beq_refl _
theorem zph {k : Nat} {l : List Nat} (h : 3 * grp k ∈ l) : inF (some l) k := List.any_eq_true.2 ⟨_, h, hits_grp k⟩
theorem inF_cons {k a : Nat} {l : List Nat} (h : inF (some l) k) : inF (some (a :: l)) k := by
 obtain ⟨c, hc, hk⟩ := List.any_eq_true.1 h
 exact List.any_eq_true.2 ⟨c, List.mem_cons_of_mem _ hc, hk⟩
theorem zfu {k : Nat} : inF (some [3 * grp k]) k := zph (List.mem_singleton.2 rfl)
theorem inF_key1 {k : Nat} : inF (some [3 * k + 1]) k := List.any_eq_true.2 ⟨_, List.mem_singleton.2 rfl, hits_key k⟩
def Ag (st st' : St) (k : Nat) : Prop := aget k st'.heap = aget k st.heap
structure Upd (W : Nat → Prop) (nx : Bool) (st s st' s' : St) : Prop where
 env : s'.env = st'.env
 tag : s'.tag = st'.tag
 ag : ∀ k, Ag st st' k → Ag s s' k
 out : ∀ k, ¬ W k → aget k s.heap = aget k st.heap ∧ aget k s'.heap = aget k st'.heap
 next : st'.next = st.next → s'.next = s.next
 still : nx = false → s.next = st.next ∧ s'.next = st'.next
theorem Upd.refl {W : Nat → Prop} {nx : Bool} {st st' : St} : Upd W nx st st st' st' := ⟨rfl, rfl, fun _ h => h, fun _ _ => ⟨rfl, rfl⟩, fun h => h, fun _ => ⟨rfl, rfl⟩⟩
theorem Upd.mono {W W' : Nat → Prop} {nx : Bool} {st s st' s' : St} (h : Upd W nx st s st' s') (hw : ∀ k, W k → W' k) : Upd W' nx st s st' s' :=
 ⟨h.env, h.tag, h.ag, fun k hk => h.out k fun x => hk (hw k x), h.next, h.still⟩
theorem Upd.trans {W : Nat → Prop} {nx : Bool} {st s r st' s' r' : St} (h : Upd W nx st s st' s') (k : Upd W nx s r s' r') : Upd W nx st r st' r' :=
 ⟨k.env.trans h.env, k.tag.trans h.tag, fun i hi => k.ag i (h.ag i hi), fun i hi => ⟨(k.out i hi).1.trans (h.out i hi).1, (k.out i hi).2.trans (h.out i hi).2⟩, fun e => k.next (h.next e),
  fun e => ⟨(k.still e).1.trans (h.still e).1, (k.still e).2.trans (h.still e).2⟩⟩
theorem Upd.nx {W : Nat → Prop} {st s st' s' : St} {nx : Bool} (h : Upd W false st s st' s') : Upd W nx st s st' s' := ⟨h.env, h.tag, h.ag, h.out, h.next, fun _ => h.still rfl⟩
theorem zbu {s s' : St} {k : Nat} {g : Nat × Nat} (h : Ag s s' k) : blkOf s' k g = blkOf s k g := by
 unfold blkOf
 rw [h]
theorem zmg {s s' : St} {k : Nat} {g : Nat × Nat} (h : Ag s s' k) : mapOf s' k g = mapOf s k g := by
 unfold mapOf; rw [h]
theorem zbx {s s' : St} {d : Nat} {cells : List AV} (ht : s'.tag = s.tag) (hn : s'.next = s.next) : (newBlk s' d cells).1 = (newBlk s d cells).1 ∧ Upd (· = d) true s (newBlk s d cells).2 s' (newBlk s' d cells).2 := by
 refine ⟨by simp [newBlk, ht, hn], rfl, rfl, fun k hk => ?_, fun k hk => ?_, fun e => by simp [newBlk, e], fun e => by cases e⟩
 ·simp only [Ag, newBlk, zan, ht, hn]
  split
  ·rfl
  ·exact hk
 ·simp only [newBlk, zan]
  rw [if_neg (fun e => hk e.symm), if_neg (fun e => hk e.symm)]
  exact ⟨rfl, rfl⟩
theorem zca {s s' : St} {k : Nat} {cells : List AV} (h : Ag s s' k) : Upd (· = k) false s (putCells s k cells) s' (putCells s' k cells) := by
 unfold putCells
 rw [h]
 cases hb : aget k s.heap with
 | none => exact .refl
 | some b =>
  refine ⟨rfl, rfl, fun i hi => ?_, fun i hi => ?_, fun e => e, fun _ => ⟨rfl, rfl⟩⟩
  ·simp only [Ag, zan]
   split
   ·rfl
   ·exact hi
  ·simp only [zan]
   rw [if_neg (fun e => hi e.symm), if_neg (fun e => hi e.symm)]
   exact ⟨rfl, rfl⟩
def Leads (v : AV) (k : Nat) : Prop := match v with
 | .ref s _ _ => k = s
 | .msl s _ _ _ _ => k = s
 | _ => False
theorem zaw {r : Option (List Nat)} {v : AV} (h : okRead r v = true) {k : Nat} (hk : Leads v k) : inF r k := by
 cases r with
 | none => trivial
 | some l => cases v <;> simp only [Leads] at hk <;> first | exact hk.elim | (subst hk; exact h)
theorem zf6 {s s' : St} {sz : Nat} {v : AV} (h : ∀ k, Leads v k → Ag s s' k) : slCells s' sz v = slCells s sz v := by
 cases v <;> try rfl
 simp only [slCells]
 rw [zbu (h _ rfl)]
theorem aLoad_ag {s s' : St} {i : TI} {v : AV} (h : ∀ k, Leads v k → Ag s s' k) : aLoad i s' v = aLoad i s v := by
 cases v <;> try rfl
 simp only [aLoad]
 rw [zbu (h _ rfl)]
theorem gLoad_ag {s s' : St} {rd : List (Nat × List Nat)} {i : TI} {v : AV} (h : ∀ k, Leads v k → Ag s s' k) : gLoad rd i s' v = gLoad rd i s v := by
 cases v <;> simp only [gLoad] <;> exact aLoad_ag h
theorem aStore_upd {s s' r : St} {i : TI} {a v : AV} (h : ∀ k, Leads a k → Ag s s' k) (hs : aStore i s a v = some r) : ∃ r', aStore i s' a v = some r' ∧ Upd (Leads a) false s r s' r' := by
 cases a <;> simp only [aStore] at hs <;> first | (cases hs; done) | skip
 rename_i k g o
 simp only [aStore, qO6] at hs ⊢
 obtain ⟨cells, h1, h2⟩ := hs
 split at h2
 ·rename_i hc
  simp only [qO1] at h2
  subst h2
  refine ⟨_, ⟨cells, by rw [zbu (h k rfl)]; exact h1, by rw [if_pos hc]⟩, (zca (h k rfl)).mono fun _ e => e⟩
 ·cases h2
theorem zpj {s s' r : St} {sz bytes d : Nat} {a x v : AV} (ht : s'.tag = s.tag) (hn : s'.next = s.next) (h : ∀ k, Ag s s' k) (hs : aAppend sz bytes s d a x = some (v, r)) :
  ∃ r', aAppend sz bytes s' d a x = some (v, r') ∧ Upd (fun _ => True) true s r s' r' := by
 unfold aAppend at hs ⊢
 rw [zf6 (fun k _ => h k)]
 simp only [qO3, qO6] at hs ⊢
 obtain ⟨⟨n, new⟩, h1, h2⟩ := hs
 cases a <;> simp only at h2 <;> first | (cases h2; done) | skip
 ·rename_i site g z o m
  simp only [qO6] at h2
  obtain ⟨cells, h3, h4⟩ := h2
  split at h4
  ·rename_i hc
   simp only [qO1, qO4] at h4
   obtain ⟨rfl, rfl⟩ := h4
   obtain ⟨e1, e2⟩ := zbx (d := site) (cells := cells.drop o ++ new) ht hn
   refine ⟨_, ⟨(n, new), h1, ?_⟩, e2.mono fun _ _ => trivial⟩
   simp only [qO6]
   refine ⟨cells, by rw [zbu (h _)]; exact h3, ?_⟩
   rw [if_pos hc, e1]
  ·cases h4
 ·split at h2
  ·rename_i hc
   simp only [qO1, qO4] at h2
   obtain ⟨rfl, rfl⟩ := h2
   obtain ⟨e1, e2⟩ := zbx (d := d) (cells := new) ht hn
   refine ⟨_, ⟨(n, new), h1, ?_⟩, e2.mono fun _ _ => trivial⟩
   simp only
   rw [if_pos hc, e1]
  ·cases h2
theorem zo6 {W : Nat → Prop} {s s' r : St} {sz bytes d : Nat} {a x v : AV} (ht : s'.tag = s.tag) (hn : s'.next = s.next) (h1 : ∀ k, Leads x k → Ag s s' k) (h2 : ∀ k, Leads a k → Ag s s' k) (hW : ∀ k, Leads a k → W k) (hWd : W d)
  (hs : aAppend sz bytes s d a x = some (v, r)) : ∃ r', aAppend sz bytes s' d a x = some (v, r') ∧ Upd W true s r s' r' := by
 unfold aAppend at hs ⊢
 rw [zf6 h1]
 simp only [qO3, qO6] at hs ⊢
 obtain ⟨⟨n, new⟩, g1, g2⟩ := hs
 cases a <;> simp only at g2 <;> first | (cases g2; done) | skip
 ·rename_i site g z o m
  simp only [qO6] at g2
  obtain ⟨cells, h3, h4⟩ := g2
  split at h4
  ·rename_i hc
   simp only [qO1, qO4] at h4
   obtain ⟨rfl, rfl⟩ := h4
   obtain ⟨e1, e2⟩ := zbx (d := site) (cells := cells.drop o ++ new) ht hn
   refine ⟨_, ⟨(n, new), g1, ?_⟩, e2.mono fun k e => hW k e⟩
   simp only [qO6]
   refine ⟨cells, by rw [zbu (h2 _ rfl)]; exact h3, ?_⟩
   rw [if_pos hc, e1]
  ·cases h4
 ·split at g2
  ·rename_i hc
   simp only [qO1, qO4] at g2
   obtain ⟨rfl, rfl⟩ := g2
   obtain ⟨e1, e2⟩ := zbx (d := d) (cells := new) ht hn
   refine ⟨_, ⟨(n, new), g1, ?_⟩, e2.mono fun k e => by subst e; exact hWd⟩
   simp only
   rw [if_pos hc, e1]
  ·cases g2
theorem lend_ag {s s' : St} {j : Nat} {v : AV} {t : Option Nat} (ht : s'.tag = s.tag) (h : ∀ k, Leads v k → Ag s s' k) : lend L s' j v t = lend L s j v t := by
 cases v <;> try rfl
 ·simp only [lend]; rw [zbu (h _ rfl), ht]
 ·simp only [lend]; rw [zbu (h _ rfl)]
theorem zha {s s' : St} (ht : s'.tag = s.tag) : ∀ {vs : List AV} {j : Nat} {ts : List Nat}, (∀ v ∈ vs, ∀ k, Leads v k → Ag s s' k) → lendAll L s' j vs ts = lendAll L s j vs ts
 | [], j, ts, _ => rfl
 | v :: vs, j, ts, h => by
  have ih := zha (vs := vs) (j := j + 1) (ts := ts.drop 1) ht (fun u hu => h u (List.mem_cons_of_mem _ hu))
  simp only [lendAll, lend_ag ht (h v (by simp)), ih]
theorem zgf : ∀ {vs : List AV} {j : Nat} {ts : List Nat} {l : List (AV × Option (List AV) × Option (Nat × Nat × Nat))}, lendAll L st j vs ts = some l → ∀ s o n, some (s, o, n) ∈ l.map (·.2.2) → ∃ v ∈ vs, Leads v s
 | [], j, ts, l, h, s, o, n, hm => by simp [lendAll] at h; subst h; simp at hm
 | v :: vs, j, ts, l, h, s, o, n, hm => by
  simp only [lendAll, qO3, qO6, qO1] at h
  obtain ⟨x, h1, xs, h2, rfl⟩ := h
  simp only [List.map_cons, List.mem_cons] at hm
  rcases hm with hm | hm
  ·refine ⟨v, by simp, ?_⟩
   cases v <;> simp only [lend, qO3, qO6, qO1] at h1 <;> first | (cases h1; done) | (subst h1; simp at hm; done) | skip
   ·obtain ⟨cells, k1, n', k2, k3⟩ := h1
    split at k3
    ·simp only [qO1] at k3
     subst k3
     simp only [qO1, qO4] at hm
     exact hm.1
    ·cases k3
   ·obtain ⟨cells, k1, k2⟩ := h1
    split at k2
    ·simp only [qO1] at k2; subst k2; simp at hm
    ·cases k2
  ·obtain ⟨u, hu, hl⟩ := zgf h2 s o n hm
   exact ⟨u, by simp [hu], hl⟩
theorem zeg {W : Nat → Prop} : ∀ {l : List (Option (Nat × Nat × Nat))} {r : List (Option (List AV))} {s s' q : St}, (∀ k o n, some (k, o, n) ∈ l → W k) → (∀ k, W k → Ag s s' k) → giveBack s l r = some q →
  ∃ q', giveBack s' l r = some q' ∧ Upd W false s q s' q'
 | [], [], s, s', q, _, _, h => by simp [giveBack] at h; subst h; exact ⟨s', rfl, .refl⟩
 | [], _ :: _, s, s', q, _, _, h => by simp [giveBack] at h
 | none :: l, [], s, s', q, _, _, h => by simp [giveBack] at h
 | none :: l, none :: r, s, s', q, hl, ha, h => by simp only [giveBack] at h ⊢; exact zeg (fun k o n hk => hl k o n (by simp [hk])) ha h
 | none :: l, some _ :: r, s, s', q, _, _, h => by simp [giveBack] at h
 | some (k, o, n) :: l, [], s, s', q, _, _, h => by simp [giveBack] at h
 | some (k, o, n) :: l, none :: r, s, s', q, _, _, h => by simp [giveBack] at h
 | some (k, o, n) :: l, some cells :: r, s, s', q, hl, ha, h => by
  have hk := hl k o n (by simp)
  simp only [giveBack] at h ⊢
  rw [ha k hk]
  cases hb : aget k s.heap with
  | none => rw [hb] at h; cases h
  | some b =>
   rw [hb] at h
   simp only at h ⊢
   by_cases hc : cells.length = n
   ·rw [if_pos hc] at h ⊢
    have u := (zca (cells := setR b.cells o cells) (ha k hk)).mono (W' := W) fun i e => e ▸ hk
    obtain ⟨q', h1, h2⟩ := zeg (fun k o n hk => hl k o n (by simp [hk])) (fun i hi => u.ag i (ha i hi)) h
    exact ⟨q', h1, u.trans h2⟩
   ·rw [if_neg hc] at h; cases h
theorem aCall_upd {s s' r : St} {own : Bool} {d f : Nat} {args : List AV} {ts : List Nat} {v : AV} {W : Nat → Prop} (ht : s'.tag = s.tag) (hn : own = true → s'.next = s.next)
  (ha : ∀ u ∈ args, ∀ k, Leads u k → Ag s s' k) (hW : ∀ l, lendAll L s 0 args ts = some l → ∀ k o n, some (k, o, n) ∈ l.map (·.2.2) → W k) (hd : own = true → W d) (hWa : ∀ k, W k → Ag s s' k)
  (hs : aCall L own Γ s d f args ts = some (v, r)) : ∃ r', aCall L own Γ s' d f args ts = some (v, r') ∧ Upd W own s r s' r' := by
 unfold aCall at hs ⊢
 rw [zha ht ha]
 simp only [qO3, qO6] at hs ⊢
 obtain ⟨l, h1, h2⟩ := hs
 split at h2
 ·rename_i hc
  simp only [qO6] at h2
  obtain ⟨⟨u, lt⟩, h3, q, h4, h5⟩ := h2
  obtain ⟨q', k1, k2⟩ := zeg (hW l h1) hWa h4
  simp only [qO1] at h5
  have key : ∃ r', adopt own q' d u = (v, r') ∧ Upd W own s r s' r' := by
   unfold adopt at h5 ⊢
   cases own with
   | false =>
    simp only [Bool.false_eq_true, if_false, qO4] at h5 ⊢
    obtain ⟨rfl, rfl⟩ := h5
    exact ⟨q', ⟨rfl, rfl⟩, k2⟩
   | true =>
    simp only [if_true] at h5 ⊢
    have hq : q'.next = q.next := k2.next (hn rfl)
    have hqt : q'.tag = q.tag := by
     rw [k2.tag, ht]
     exact (zbl h4).2.symm
    cases u <;> simp only [qO4] at h5 ⊢ <;> first | (obtain ⟨rfl, rfl⟩ := h5; exact ⟨q', ⟨rfl, rfl⟩, k2.nx⟩) | skip
    obtain ⟨rfl, rfl⟩ := h5
    obtain ⟨e1, e2⟩ := zbx (d := d) (cells := (by assumption)) hqt hq
    exact ⟨_, ⟨by rw [e1], rfl⟩, k2.nx.trans (e2.mono fun i e => by subst e; exact hd rfl)⟩
  obtain ⟨r', e1, e2⟩ := key
  refine ⟨r', ⟨l, h1, ?_⟩, e2⟩
  rw [if_pos hc]
  simp only [qO6, qO1]
  refine ⟨(u, lt), by rw [ht]; exact h3, q', k1, e1⟩
 ·cases h2
theorem roCall_upd {s s' r : St} {f : Nat} {args : List AV} {ts : List Nat} {v : AV} {W : Nat → Prop} {nx : Bool} (ht : s'.tag = s.tag)
  (ha : ∀ u ∈ args, ∀ k, Leads u k → Ag s s' k) (hs : roCall L Γ s f args ts = some (v, r)) : ∃ r', roCall L Γ s' f args ts = some (v, r') ∧ Upd W nx s r s' r' := by
 obtain rfl := zmw hs
 refine ⟨s', ?_, .refl⟩
 unfold roCall at hs ⊢
 rw [zha ht ha, ht]
 simp only [qO3, qO6] at hs ⊢
 obtain ⟨l, h1, h2⟩ := hs
 refine ⟨l, h1, ?_⟩
 split at h2
 ·rename_i hc
  rw [if_pos hc]
  simp only [qO6] at h2 ⊢
  obtain ⟨q, h3, h4⟩ := h2
  refine ⟨q, h3, ?_⟩
  split at h4
  ·rename_i hq
   rw [if_pos hq]
   simp only [qO1, qO4, and_true] at h4
   rw [h4]
  ·cases h4
 ·cases h2
theorem inF_key {rd : Option (List Nat)} {k : Nat} : inF rd k ↔ okKey rd k = true := Iff.rfl
theorem zh7 {rd : Option (List Nat)} {V : Pol} {s s' r : St} {j0 d f : Nat} {hd args : List AV} {v : AV} (ht : s'.tag = s.tag) (hn : s'.next = s.next) (ha : ∀ k, inF rd k → Ag s s' k)
  (hs : hCallG j0 hd f rd V Γ s d args = some (v, r)) : ∃ r', hCallG j0 hd f rd V Γ s' d args = some (v, r') ∧ Upd (inF rd) true s r s' r' := by
 have hk : ∀ k, okKey rd k = true → aget k s'.heap = aget k s.heap := fun k h => ha k (inF_key.2 h)
 unfold hCallG at hs ⊢
 rw [zgk hk, ht]
 simp only [qO3, qO6] at hs ⊢
 obtain ⟨pk, h1, hs⟩ := hs
 have hpk := zbj h1 (by simp)
 simp only [h1, qO1, exists_eq_left']
 split at hs
 ·rename_i hc
  rw [if_pos hc]
  simp only [qO6] at hs ⊢
  obtain ⟨l, h2, q, h3, bk, h4, hs⟩ := hs
  obtain ⟨u, rr⟩ := q
  rw [zil (s := s) (s' := s') pk pk fun x hx => hk _ (hpk x hx).2]
  simp only [h2, h3, zjc ht hn, h4, qO1, exists_eq_left']
  split at hs
  ·rename_i hb
   have hb' := hb
   rw [qO5] at hb'
   have hbk : ∀ x ∈ bk, okKey rd x.2.2.1 = true := fun x hx => List.all_eq_true.1 hb'.1 _ (List.mem_map_of_mem (f := fun y => y.2.2.1) hx)
   rw [ziq (s := s) (s' := s') _ _ _ fun x hx => hk _ (hbk x hx), if_pos hb]
   simp only [qO1, qO4] at hs
   obtain ⟨rfl, rfl⟩ := hs
   simp only [qO1, qO4, true_and, exists_eq_left']
   have hbh : ∀ k, okKey rd k = false → aget k (backHeap (.out s.tag) bk bk rr) = none := by
    intro k hkf
    have : ∀ (l : Pk) (r : List (Option (List AV))), (∀ x ∈ l, okKey rd x.2.2.1 = true) → aget k (backHeap (.out s.tag) bk l r) = none := by
     intro l
     induction l with
     | nil => intro r _; simp [backHeap, aget]
     | cons x l ih =>
      intro r hl
      obtain ⟨x1, x2, x3, x4⟩ := x
      have h0 := hl _ List.mem_cons_self
      simp only at h0
      cases r with
      | nil => simp [backHeap, aget]
      | cons y r => cases y with
       | none => simp [backHeap, aget]
       | some cs => cases cs with
        | nil => simp [backHeap, aget]
        | cons c cs =>
         simp only [backHeap, aget]
         rw [if_neg (fun e => by rw [e, hkf] at h0; cases h0)]
         exact ih r fun x hx => hl x (List.mem_cons_of_mem _ hx)
    exact this bk rr hbk
   have outs : ∀ (h : List (Nat × Blk)) k, ¬ inF rd k → aget k (backHeap (.out s.tag) bk bk rr ++ h.filter fun p => !(pk.map (·.1)).contains p.1 && !(bk.map (·.2.2.1)).contains p.1) = aget k h := by
    intro h k hni
    have hkf : okKey rd k = false := by
     cases e : okKey rd k with
     | false => rfl
     | true => exact (hni (inF_key.2 e)).elim
    rw [zc4, hbh k hkf, Option.none_or, zc8 k (fun k => !(pk.map (·.1)).contains k && !(bk.map (·.2.2.1)).contains k), if_pos]
    simp only [qO5, Bool.not_eq_true', List.contains_eq_mem, decide_eq_false_iff_not, List.mem_map, not_exists, not_and]
    refine ⟨fun x hx e => ?_, fun x hx e => ?_⟩
    ·have := (hpk x hx).2; rw [e, hkf] at this; cases this
    ·have := hbk x hx; rw [e, hkf] at this; cases this
   refine ⟨rfl, ht.symm, fun k hk => ?_, fun k hk => ⟨outs _ k hk, outs _ k hk⟩, fun _ => by simp only [hn], fun e => by cases e⟩
   simp only [Ag, zc4]
   rw [zc8 k (fun k => !(pk.map (·.1)).contains k && !(bk.map (·.2.2.1)).contains k), zc8 k (fun k => !(pk.map (·.1)).contains k && !(bk.map (·.2.2.1)).contains k), hk]
  ·cases hs
 ·cases hs
theorem znq {rd : Option (List Nat)} {own : Bool} {s s' r : St} {d f : Nat} {args : List AV} {v : AV} (ht : s'.tag = s.tag) (hn : own = true → s'.next = s.next) (ha : ∀ k, inF rd k → Ag s s' k)
  (hs : vCall rd own Γ s d f args = some (v, r)) : ∃ r', vCall rd own Γ s' d f args = some (v, r') ∧ Upd (inF (if own then some [3 * grp d] else some [])) own s r s' r' := by
 unfold vCall at hs ⊢
 have hv : args.map (view rd s' 12) = args.map (view rd s 12) := List.map_congr_left fun v _ => zq3 (fun k hk => ha k hk) 12 v
 rw [hv, ht]
 simp only [qO3, qO6] at hs ⊢
 obtain ⟨⟨u, q⟩, h1, h2⟩ := hs
 simp only [qO1] at h2
 unfold adopt at h2
 cases own with
 | false =>
  simp only [Bool.false_eq_true, if_false, qO4] at h2
  obtain ⟨rfl, rfl⟩ := h2
  exact ⟨s', ⟨(u, q), h1, by simp [adopt]⟩, .refl⟩
 | true =>
  simp only [if_true] at h2 ⊢
  cases u <;> simp only [qO4] at h2
  case fsl z n cells =>
   obtain ⟨rfl, rfl⟩ := h2
   obtain ⟨e1, e2⟩ := zbx (d := d) (cells := cells) ht (hn rfl)
   exact ⟨_, ⟨(.fsl z n cells, q), h1, by simp only [adopt, if_true, e1]⟩, e2.mono fun k e => by subst e; exact zfu⟩
  all_goals
   obtain ⟨rfl, rfl⟩ := h2
   exact ⟨s', ⟨(_, q), h1, rfl⟩, .refl⟩
theorem za9 {s s' : St} {W : Nat → Prop} {nx : Bool} {v u : AV} {r : St} (h : (u, s) = (v, r)) : ∃ r', some (u, s') = some (v, r') ∧ Upd W nx s r s' r' := by
 simp only [qO4] at h
 obtain ⟨rfl, rfl⟩ := h
 exact ⟨s', rfl, .refl⟩
theorem append_upd {s s' : St} {ts : List Nat} {args : List AV} {v : AV} {r : St} (ht : s'.tag = s.tag) (hn : s'.next = s.next) (hk : ∀ k, Ag s s' k) (h : aBuiltin L s d .append ts args = some (v, r)) :
  ∃ r', aBuiltin L s' d .append ts args = some (v, r') ∧ Upd (fun _ => True) true s r s' r' := by
 unfold aBuiltin at h ⊢
 split at h <;> first | (rename_i heq; cases heq; done) | (cases h; done) | skip
 simp only [qO3, qO6] at h
 obtain ⟨e, h1, h2⟩ := h
 simp only [h1, qO3, qO2]
 split at h2
 ·rename_i hb
  rw [if_pos hb]
  exact zpj ht hn hk h2
 ·cases h2
theorem zos {s s' : St} {l l' : List AV} {r : St} (ht : s'.tag = s.tag) (hn : s'.next = s.next) (hk : ∀ k, Ag s s' k) (h : shorten s l = some (l', r)) :
  ∃ r', shorten s' l = some (l', r') ∧ Upd (fun _ => True) true s r s' r' ∧ r'.tag = r.tag ∧ r'.next = r.next := by
 unfold shorten at h ⊢
 split at h
 ·rename_i k g z o m rest
  simp only [qO6] at h
  obtain ⟨cells, h1, h2⟩ := h
  simp only [zbu (hk _), h1, qO2]
  split at h2
  ·rename_i hc
   rw [if_pos hc]
   simp only [qO1, qO4] at h2
   obtain ⟨rfl, rfl⟩ := h2
   obtain ⟨e1, e2⟩ := zbx (d := k) (cells := cells.take (o + m * z)) ht hn
   exact ⟨_, by rw [ht, hn], e2.mono fun _ _ => trivial, by simp only [newBlk, ht], by simp only [newBlk, hn]⟩
  ·cases h2
 ·simp only [qO1, qO4] at h
  obtain ⟨rfl, rfl⟩ := h
  exact ⟨_, rfl, .refl, ht, hn⟩
theorem zpu {s' : St} {v : AV} {r : St} (he : s'.env = st.env) (ht : s'.tag = st.tag)
  (hr : ∀ k, inF (fpOf L K d op).rd k → Ag st s' k) (hw : ∀ k, inF (fpOf L K d op).wr k → Ag st s' k) (hn : (fpOf L K d op).nx = true → s'.next = st.next)
  (h : denOp L K Γ st d ty op = some (v, r)) : ∃ r', denOp L K Γ s' d ty op = some (v, r') ∧ Upd (inF (fpOf L K d op).wr) (fpOf L K d op).nx st r s' r' := by
 have ho : ∀ x, operand s' x = operand st x := fun x => by cases x <;> simp [operand, he]
 have hmap : ∀ l : List Operand, l.map (operand s') = l.map (operand st) := fun l => List.map_congr_left fun x _ => ho x
 have hopt : ∀ x : Option Operand, x.map (operand s') = x.map (operand st) := fun x => by cases x <;> simp [ho]
 have hparts : ∀ ps, parts s' ps = parts st ps := fun ps => List.map_congr_left fun p _ => by rw [ho p.2]
 have fresh : ∀ {W : Nat → Prop} {cells : List AV} {mk : Nat × Nat → AV}, W d → s'.next = st.next → (mk (newBlk st d cells).1, (newBlk st d cells).2) = (v, r) →
   ∃ r', some (mk (newBlk s' d cells).1, (newBlk s' d cells).2) = some (v, r') ∧ Upd W true st r s' r' := by
  intro W cells mk hW hnx hh
  simp only [qO4] at hh
  obtain ⟨rfl, rfl⟩ := hh
  obtain ⟨e1, e2⟩ := zbx (d := d) (cells := cells) ht hnx
  exact ⟨_, by rw [e1], e2.mono fun k e => by subst e; exact hW⟩
 cases op <;> simp only [denOp] at h ⊢ <;> first | (cases h; done) | skip
 case move x => rw [ho x]; exact za9 (Option.some.inj h)
 case assign x =>
  simp only [fpOf] at hr hw hn ⊢
  rw [ho x]
  split at h
  ·rename_i v0 hv0
   split at h
   ·rename_i hc
    rw [if_pos hc] at hr hw hn
    simp only [if_pos hc]
    cases hel : slElem L ty with
    | none => simp [hel] at h
    | some e =>
     simp only [hel, Option.map_some] at h ⊢
     exact fresh (mk := fun g => .msl d g e.size 0 0) zfu (hn rfl) (Option.some.inj h)
   ·rename_i hc
    simp only [if_neg hc]
    exact za9 (Option.some.inj h)
  ·exact za9 (Option.some.inj h)
 case pick x y z =>
  rw [ho x, ho y, ho z]
  split at h
  ·exact za9 (Option.some.inj h)
  ·cases h
 case alloc t =>
  simp only [qO3, qO6] at h
  obtain ⟨i, h1, h2⟩ := h
  obtain ⟨r', k1, k2⟩ := fresh (W := inF (fpOf L K d (.alloc t)).wr) (mk := fun g => .ref d g 0) zfu (hn rfl) (Option.some.inj h2)
  exact ⟨r', by simp only [h1, qO3, qO2]; exact k1, k2⟩
 case box t x =>
  rw [ho x]
  split at h
  ·rename_i hc
   obtain ⟨r', k1, k2⟩ := fresh (W := inF (fpOf L K d (.box t x)).wr) (mk := fun g => .ref d g 0) zfu (hn rfl) (Option.some.inj h)
   exact ⟨r', by rw [if_pos hc]; exact k1, k2⟩
  ·cases h
 case build t ps =>
  rw [hparts]
  simp only [qO3, qO6] at h ⊢
  obtain ⟨i, h1, h2⟩ := h
  have : ∃ r', (match i.desc with
    | .strct fs => (fillA (fun k => (fs[k]?).bind fun q => (L q.2).bind fun j => some (q.1, j.size)) i.zero (parts st ps)).bind fun cs => some (AV.agg cs, s')
    | .arr _ e => (L e).bind fun j => (fillA (fun k => some (k * j.size, j.size)) i.zero (parts st ps)).bind fun cs => some (AV.agg cs, s')
    | _ => none) = some (v, r') ∧ Upd (inF (fpOf L K d (.build t ps)).wr) (fpOf L K d (.build t ps)).nx st r s' r' := by
   split at h2
   ·rename_i fs hd
    simp only [qO6] at h2
    obtain ⟨cs, h3, h4⟩ := h2
    obtain ⟨r', k1, k2⟩ := za9 (s' := s') (W := inF (fpOf L K d (.build t ps)).wr) (nx := (fpOf L K d (.build t ps)).nx) (Option.some.inj h4)
    refine ⟨r', ?_, k2⟩
    rw [hd]
    simp only [qO6]
    exact ⟨cs, h3, k1⟩
   ·rename_i n e hd
    simp only [qO6] at h2
    obtain ⟨j, h5, cs, h3, h4⟩ := h2
    obtain ⟨r', k1, k2⟩ := za9 (s' := s') (W := inF (fpOf L K d (.build t ps)).wr) (nx := (fpOf L K d (.build t ps)).nx) (Option.some.inj h4)
    refine ⟨r', ?_, k2⟩
    rw [hd]
    simp only [qO6]
    exact ⟨j, h5, cs, h3, k1⟩
   ·cases h2
  obtain ⟨r', k1, k2⟩ := this
  exact ⟨r', ⟨i, h1, k1⟩, k2⟩
 case buildSlice t n ps =>
  rw [hparts]
  simp only [qO3, qO6] at h
  obtain ⟨e, h1, h2⟩ := h
  split at h2
  ·rename_i hc
   simp only [qO6] at h2
   obtain ⟨cs, h3, h4⟩ := h2
   obtain ⟨r', k1, k2⟩ := fresh (W := inF (fpOf L K d (.buildSlice t n ps)).wr) (mk := fun g => .msl d g e.size 0 n) zfu (hn rfl) (Option.some.inj h4)
   refine ⟨r', ?_, k2⟩
   simp only [h1, qO3, qO2, if_pos hc, h3]
   exact k1
  ·cases h2
 case load t x =>
  rw [ho x]
  simp only [fpOf] at hr hw hn ⊢
  split at h
  ·cases h
  ·rename_i hc
   rw [if_neg hc]
   have hc' : okRead (aget d K.reads) (operand st x) = true := by simpa using hc
   have hld : ∀ i, gLoad K.reads i s' (operand st x) = gLoad K.reads i st (operand st x) := fun i => gLoad_ag fun k hk => hr k (zaw hc' hk)
   simp only [hld, qO3, qO6] at h ⊢
   obtain ⟨i, h1, u, h2, h3⟩ := h
   obtain ⟨r', k1, k2⟩ := za9 (s' := s') (Option.some.inj h3)
   exact ⟨r', ⟨i, h1, u, h2, k1⟩, k2⟩
 case store t x y =>
  rw [ho x, ho y]
  simp only [fpOf] at hr hw hn ⊢
  split at h
  ·cases h
  ·rename_i hc
   rw [if_neg hc]
   have hc' : okStore (K.storeAt x) (operand st x) = true := by simpa using hc
   simp only [qO3, qO6] at h ⊢
   obtain ⟨i, h1, q, h2, h3⟩ := h
   have hl : ∀ k, Leads (operand st x) k → inF (match K.storeAt x with | some s => (⟨some [], some [3 * s + 1], false⟩ : FP) | none => ⟨some [], none, false⟩).wr k := by
    intro k hk
    cases hs : K.storeAt x with
    | none => trivial
    | some s0 =>
     rw [hs] at hc'
     generalize operand st x = ax at hk hc'
     cases ax <;> simp only [Leads] at hk <;> first | exact hk.elim | (simp only [okStore] at hc'; cases hc'; done) | skip
     simp only [okStore, beq_iff_eq] at hc'
     subst hk hc'
     exact inF_key1
   obtain ⟨q', k1, k2⟩ := aStore_upd (s' := s') (fun k hk => hw k (hl k hk)) h2
   simp only [qO1, qO4] at h3
   obtain ⟨rfl, rfl⟩ := h3
   refine ⟨q', ⟨i, h1, q', k1, rfl⟩, ?_⟩
   have := k2.mono hl
   cases hs : K.storeAt x <;> rw [hs] at this <;> exact this
 case nilCheck x =>
  rw [ho x]
  split at h
  ·exact za9 (Option.some.inj h)
  ·exact za9 (Option.some.inj h)
  ·cases h
 case binOp o t x y b =>
  rw [ho x, ho y]
  simp only [Option.map_eq_some_iff] at h ⊢
  obtain ⟨u, h1, h2⟩ := h
  obtain ⟨r', k1, k2⟩ := za9 (s' := s') h2
  exact ⟨r', ⟨u, h1, Option.some.inj k1⟩, k2⟩
 case unOp o t x =>
  rw [ho x]
  simp only [Option.map_eq_some_iff] at h ⊢
  obtain ⟨u, h1, h2⟩ := h
  obtain ⟨r', k1, k2⟩ := za9 (s' := s') h2
  exact ⟨r', ⟨u, h1, Option.some.inj k1⟩, k2⟩
 case typeAssert x q t ok =>
  rw [ho x]
  simp only [Option.map_eq_some_iff] at h ⊢
  obtain ⟨u, h1, h2⟩ := h
  obtain ⟨r', k1, k2⟩ := za9 (s' := s') h2
  exact ⟨r', ⟨u, h1, Option.some.inj k1⟩, k2⟩
 case convert a b x =>
  rw [ho x]
  simp only [qO3, qO6] at h
  obtain ⟨i, h1, j, h2, h3⟩ := h
  simp only [h1, h2, qO3, qO2]
  simp only [fpOf, h1] at hr hw hn ⊢
  split at h3
  ·exact za9 (Option.some.inj h3)
  ·rename_i e hd1 hd2
   rw [hd1] at hr hw hn
   simp only [hd1] at hr hw hn ⊢
   split at h3
   ·cases h3
   ·rename_i hc
    rw [if_neg hc]
    have hc' : okRead (aget d K.reads) (operand st x) = true := by simpa using hc
    simp only [qO6] at h3
    obtain ⟨ie, h4, h5⟩ := h3
    simp only [h4, qO2]
    split at h5
    ·rw [zf6 (s := st) (s' := s') (fun k hk => hr k (zaw hc' hk))]
     simp only [qO6] at h5 ⊢
     obtain ⟨q, h6, xs, h7, h8⟩ := h5
     obtain ⟨r', k1, k2⟩ := za9 (s' := s') (Option.some.inj h8)
     exact ⟨r', ⟨q, h6, xs, h7, k1⟩, k2⟩
    ·cases h5
  ·cases h3
 case makeSlice t ln cp =>
  rw [ho ln, ho cp]
  simp only [fpOf] at hr hw hn ⊢
  simp only [qO3, qO6] at h
  obtain ⟨e, h1, h2⟩ := h
  simp only [h1, qO3, qO2]
  split at h2
  ·rename_i k n k' n' e1 e2
   split at h2
   ·rename_i hc
    rw [if_pos hc]
    exact fresh (mk := fun g => .msl d g e.size 0 n.toNat) zfu (hn trivial) (Option.some.inj h2)
   ·cases h2
  ·cases h2
 case makeMap t hint =>
  cases hint with
  | some _ => cases h
  | none =>
   simp only [qO3, qO6] at h
   obtain ⟨q, h1, h2⟩ := h
   simp only [qO1, qO4] at h2
   obtain ⟨rfl, rfl⟩ := h2
   obtain ⟨e1, e2⟩ := zbx (d := d + 500000) (cells := [.mapd [] []]) ht (hn rfl)
   exact ⟨_, by simp only [h1, qO3, qO2]; rw [e1], e2.mono fun k _ => rfl⟩
 case lookup t x ix ok =>
  rw [ho x, ho ix]
  simp only [fpOf] at hr hw hn ⊢
  split at h
  ·cases h
  rename_i hc
  rw [if_neg hc]
  have hc' : okMap (aget d K.reads) (operand st x) = true := by simpa using hc
  have hm : mapArg s' (operand st x) = mapArg st (operand st x) := by
   generalize operand st x = mv at hc'
   cases mv <;> first | rfl | exact zmg (hr _ hc')
  simp only [hm, qO3, qO6] at h ⊢
  obtain ⟨q, h1, j, h2, r0, h3, p, h4, h5⟩ := h
  obtain ⟨r', k1, k2⟩ := za9 (s' := s') (Option.some.inj h5)
  exact ⟨r', ⟨q, h1, j, h2, r0, h3, p, h4, k1⟩, k2⟩
 case mapUpdate t x k y =>
  rw [ho x, ho k, ho y]
  have hm : ∀ k g, mapOf s' k g = mapOf st k g := fun k g => zmg (hr k rfl)
  simp only [qO3, qO6] at h
  obtain ⟨q, h1, h2⟩ := h
  simp only [h1, qO3, qO2]
  split at h2
  ·rename_i g σ hs
   simp only [qO6] at h2
   obtain ⟨r0, h3, h4⟩ := h2
   simp only [hm, h3, qO2]
   split at h4
   ·rename_i hcnd
    simp only [qO6] at h4
    obtain ⟨p, h5, h6⟩ := h4
    simp only [qO1, qO4] at h6
    obtain ⟨rfl, rfl⟩ := h6
    refine ⟨putCells s' g [.mapd p.1 p.2], by rw [if_pos hcnd, h5]; rfl, ((zca (hr _ rfl)).mono fun _ _ => rfl).nx⟩
   ·cases h4
  ·cases h2
 case fieldAddr a x f =>
  rw [ho x]
  simp only [qO3, qO6] at h
  obtain ⟨⟨o, j⟩, h1, h2⟩ := h
  simp only [h1, qO3, qO2]
  simp only at h2
  split at h2
  ·cases h2
  ·rename_i hz
   rw [if_neg hz]
   split at h2
   ·exact za9 (Option.some.inj h2)
   ·exact za9 (Option.some.inj h2)
   ·cases h2
 case field a x f =>
  rw [ho x]
  simp only [qO3, qO6] at h
  obtain ⟨⟨o, j⟩, h1, h2⟩ := h
  simp only [h1, qO3, qO2]
  simp only at h2
  split at h2
  ·simp only [qO6] at h2 ⊢
   obtain ⟨u, h3, h4⟩ := h2
   obtain ⟨r', k1, k2⟩ := za9 (s' := s') (Option.some.inj h4)
   exact ⟨r', ⟨u, h3, k1⟩, k2⟩
  ·cases h2
 case sliceToArrayPointer t x =>
  rw [ho x]
  simp only [fpOf] at hr hw hn ⊢
  split at h
  ·cases h
  ·rename_i hc
   rw [if_neg hc]
   have hc' : okRead (aget d K.reads) (operand st x) = true := by simpa using hc
   simp only [qO3, qO6] at h
   obtain ⟨i, h1, h3⟩ := h
   simp only [h1, qO3, qO2]
   split at h3
   ·split at h3
    ·rename_i s0 g z o n heq
     rw [zbu (s := st) (s' := s') (hr s0 (zaw hc' (by rw [heq]; rfl)))]
     split at h3
     ·rename_i hb; rw [if_pos hb]; exact za9 (Option.some.inj h3)
     ·cases h3
    ·split at h3
     ·rename_i hb; rw [if_pos hb]; exact za9 (Option.some.inj h3)
     ·cases h3
    ·split at h3
     ·rename_i hb; rw [if_pos hb]; exact za9 (Option.some.inj h3)
     ·cases h3
    ·cases h3
   ·cases h3
 case indexAddr t x ix =>
  rw [ho x, ho ix]
  simp only [fpOf] at hr hw hn ⊢
  split at h
  ·cases h
  ·rename_i hc
   rw [if_neg hc]
   have hc' : okRead (aget d K.reads) (operand st x) = true := by simpa using hc
   simp only [qO3, qO6] at h
   obtain ⟨i, h1, k, h2, h3⟩ := h
   simp only [h1, h2, qO3, qO2]
   split at h3
   ·simp only [qO6] at h3
    obtain ⟨j, h4, h5⟩ := h3
    simp only [h4, qO2]
    split at h5
    ·rename_i hb
     rw [if_pos hb]
     split at h5
     ·exact za9 (Option.some.inj h5)
     ·exact za9 (Option.some.inj h5)
     ·cases h5
    ·cases h5
   ·simp only [qO6] at h3
    obtain ⟨j, h4, h5⟩ := h3
    simp only [h4, qO2]
    split at h5
    ·rename_i s0 g z o n heq
     rw [zbu (s := st) (s' := s') (hr s0 (zaw hc' (by rw [heq]; rfl)))]
     split at h5
     ·rename_i hb; rw [if_pos hb]; exact za9 (Option.some.inj h5)
     ·cases h5
    ·split at h5
     ·rename_i hb; rw [if_pos hb]; exact za9 (Option.some.inj h5)
     ·cases h5
    ·split at h5
     ·rename_i hb; rw [if_pos hb]; exact za9 (Option.some.inj h5)
     ·cases h5
    ·cases h5
   ·cases h3
 case index t x ix =>
  rw [ho x, ho ix]
  simp only [qO3, qO6] at h
  obtain ⟨i, h1, k, h2, h3⟩ := h
  simp only [h1, h2, qO3, qO2]
  split at h3
  ·simp only [qO6] at h3
   obtain ⟨j, h4, h5⟩ := h3
   simp only [h4, qO2]
   split at h5
   ·rename_i hb
    rw [if_pos hb]
    simp only [qO6] at h5 ⊢
    obtain ⟨u, h6, h7⟩ := h5
    obtain ⟨r', k1, k2⟩ := za9 (s' := s') (Option.some.inj h7)
    exact ⟨r', ⟨u, h6, k1⟩, k2⟩
   ·cases h5
  ·split at h3
   ·rename_i hb
    rw [if_pos hb]
    simp only [Option.map_eq_some_iff] at h3 ⊢
    obtain ⟨u, h6, h7⟩ := h3
    obtain ⟨r', k1, k2⟩ := za9 (s' := s') h7
    exact ⟨r', ⟨u, h6, Option.some.inj k1⟩, k2⟩
   ·cases h3
  ·cases h3
 case slice t x lo hi mx =>
  cases mx with
  | some mx =>
   simp only at h ⊢
   rw [ho x, ho mx, hopt lo, hopt hi]
   simp only [fpOf] at hr hw hn ⊢
   split at h
   ·cases h
   ·rename_i hc
    rw [if_neg hc]
    simp only [qO3, qO6] at h
    obtain ⟨i, h1, h2⟩ := h
    simp only [h1, qO3, qO2]
    split at h2
    ·simp only [qO6] at h2 ⊢
     obtain ⟨j, h3, n, h4, k, h5, hh, h6, l, h7, h8⟩ := h2
     split at h8
     ·rename_i hcc
      obtain ⟨r', k1, k2⟩ := za9 (s' := s') (Option.some.inj h8)
      exact ⟨r', ⟨j, h3, n, h4, k, h5, hh, h6, l, h7, by rw [if_pos hcc]; exact k1⟩, k2⟩
     ·cases h8
    ·cases h2
  | none =>
  simp only at h ⊢
  rw [ho x, hopt lo, hopt hi]
  simp only [fpOf] at hr hw hn ⊢
  split at h
  ·cases h
  ·rename_i hc
   rw [if_neg hc]
   have hc' : okRead (aget d K.reads) (operand st x) = true := by simpa using hc
   simp only [qO3, qO6] at h
   obtain ⟨i, h1, h2⟩ := h
   simp only [h1, qO3, qO2]
   split at h2
   ·simp only [qO6] at h2 ⊢
    obtain ⟨u, h3, h4⟩ := h2
    obtain ⟨r', k1, k2⟩ := za9 (s' := s') (Option.some.inj h4)
    exact ⟨r', ⟨u, h3, k1⟩, k2⟩
   ·simp only [qO6] at h2 ⊢
    obtain ⟨j, h3, u, h4, h5⟩ := h2
    obtain ⟨r', k1, k2⟩ := za9 (s' := s') (Option.some.inj h5)
    exact ⟨r', ⟨j, h3, u, h4, k1⟩, k2⟩
   ·simp only [qO6] at h2
    obtain ⟨j, h3, h4⟩ := h2
    simp only [h3, qO2]
    split at h4
    ·rename_i s0 g o heq
     rw [zbu (s := st) (s' := s') (hr s0 (zaw hc' (by rw [heq]; rfl)))]
     simp only [qO6] at h4
     obtain ⟨cells, h5, h6⟩ := h4
     simp only [h5, qO2]
     split at h6
     ·rename_i hb
      rw [if_pos hb]
      simp only [qO6] at h6 ⊢
      obtain ⟨u, h7, h8⟩ := h6
      obtain ⟨r', k1, k2⟩ := za9 (s' := s') (Option.some.inj h8)
      exact ⟨r', ⟨u, h7, k1⟩, k2⟩
     ·cases h6
    ·cases h4
   ·cases h2
 case extract x k =>
  rw [ho x]
  split at h
  ·simp only [qO3, qO6] at h ⊢
   obtain ⟨u, h6, h7⟩ := h
   obtain ⟨r', k1, k2⟩ := za9 (s' := s') (Option.some.inj h7)
   exact ⟨r', ⟨u, h6, k1⟩, k2⟩
  ·cases h
 case makeFunc fn first captured =>
  rw [hmap]
  split at h
  ·split at h
   ·rename_i h0
    split at h
    ·rename_i h1
     rw [if_pos h0, if_pos h1]
     exact za9 (Option.some.inj h)
    ·cases h
   ·cases h
  ·cases h
 case call c =>
  rw [hmap]
  simp only [fpOf] at hr hw hn ⊢
  cases hcal : c.callee with
  | invoke _ _ => rw [hcal] at h; cases h
  | value f =>
   rw [hcal] at h hr hw hn
   simp only at h hr hw hn ⊢
   rw [ho f]
   cases hf : operand st f <;> rw [hf] at h <;> first | (cases h; done) | skip
   rotate_left
   ·rename_i y captured
    simp only at h ⊢
    by_cases hhp : K.hp.contains d = true
    ·rw [if_pos hhp] at h ⊢
     rw [if_pos hhp] at hr hw hn
     rw [if_pos hhp]
     unfold yCall at h ⊢
     split at h
     ·rename_i htop
      rw [if_pos htop]
      by_cases hro : K.ro.contains d = true
      ·rw [if_pos hro] at hr hw hn
       rw [if_pos hro]
       have hfn : isFn f = false := by
        cases f <;> first | rfl | (simp only [operand] at hf; cases hf)
       rw [hfn] at hr hw hn ⊢
       simp only [Bool.false_eq_true, if_false] at hr hw hn ⊢
       obtain ⟨r', k1, k2⟩ := zh7 ht (hn rfl) (fun k _ => hr k rfl) h
       exact ⟨r', k1, k2.mono fun _ _ => rfl⟩
      ·rw [if_neg hro] at hr hw hn
       rw [if_neg hro]
       exact zh7 ht (hn rfl) hr h
     ·cases h
    ·rw [if_neg hhp] at h; cases h
   rename_i g captured
   simp only at h ⊢
   by_cases hhp : K.hp.contains d = true
   ·rw [if_pos hhp] at h ⊢
    rw [if_pos hhp] at hr hw hn
    rw [if_pos hhp]
    by_cases hro : K.ro.contains d = true
    ·rw [if_pos hro] at h ⊢
     rw [if_pos hro] at hr hw hn
     rw [if_pos hro]
     cases hfn : isFn f with
     | true =>
      rw [hfn] at hr hw hn
      simp only [if_true] at hr hw hn ⊢
      exact znq ht hn hr h
     | false =>
      rw [hfn] at hr hw hn
      simp only [Bool.false_eq_true, if_false] at hr hw hn ⊢
      obtain ⟨r', k1, k2⟩ := znq ht (fun _ => hn rfl) (fun k _ => hr k rfl) h
      exact ⟨r', k1, ⟨k2.env, k2.tag, k2.ag, fun k hk => (hk rfl).elim, k2.next, fun e => by cases e⟩⟩
    ·rw [if_neg hro] at h ⊢
     rw [if_neg hro] at hr hw hn
     rw [if_neg hro]
     exact zh7 ht (hn rfl) hr h
   rw [if_neg hhp] at h ⊢
   rw [if_neg hhp] at hr hw hn
   rw [if_neg hhp]
   split at h
   ·cases h
   ·rename_i hc
    rw [if_neg hc]
    have hc' : ∀ u ∈ c.args.toList.map (operand st) ++ captured, okRead (aget d K.reads) u = true := by
     have : (c.args.toList.map (operand st) ++ captured).all (okRead (aget d K.reads)) = true := by simpa using hc
     exact List.all_eq_true.1 this
    have hcap : isFn f = true → captured = [] := by
     intro f1
     cases f <;> simp only [isFn, Bool.false_eq_true] at f1
     simp only [operand, AV.fn.injEq] at hf
     exact hf.2.symm
    by_cases hro : K.ro.contains d = true
    ·rw [if_pos hro] at h ⊢
     rw [if_pos hro] at hr hw hn
     rw [if_pos hro]
     exact roCall_upd ht (fun u hu k hk => hr k (zaw (hc' u hu) hk)) h
    rw [if_neg hro] at h ⊢
    rw [if_neg hro] at hr hw hn
    rw [if_neg hro]
    generalize isFn f = fb at hr hw hn hcap ⊢
    refine aCall_upd ht hn (fun u hu k hk => hr k (zaw (hc' u hu) hk)) ?_ ?_ hw h
    ·intro l hl k o n hm
     by_cases hfree : (fb && (c.args.size == c.argTypes.size && c.argTypes.toList.all (ptrFree L))) = true
     ·exfalso
      simp only [qO5, beq_iff_eq] at hfree
      obtain ⟨f1, f2, f3⟩ := hfree
      have := hcap f1
      subst this
      obtain ⟨q, hq, hqe⟩ := List.mem_map.1 hm
      have := zej (by simp [f2]) f3 hl q hq
      rw [this] at hqe
      cases hqe
     ·rw [if_neg hfree]
      obtain ⟨u, hu, hl'⟩ := zgf hl k o n hm
      have := zaw (hc' u hu) hl'
      cases hrd : aget d K.reads with
      | none => trivial
      | some l0 =>
       rw [hrd] at this
       simp only [Option.map_some]
       by_cases hown : K.own.contains d = true
       ·rw [if_pos hown]; exact inF_cons this
       ·rw [if_neg hown]; exact this
    ·intro hown
     by_cases hfree : (fb && (c.args.size == c.argTypes.size && c.argTypes.toList.all (ptrFree L))) = true
     ·rw [if_pos hfree, if_pos hown]
      exact zfu
     ·rw [if_neg hfree]
      cases hrd : aget d K.reads with
      | none => trivial
      | some l0 =>
       simp only [Option.map_some, if_pos hown]
       exact zph List.mem_cons_self
  | builtin b =>
   rw [hcal] at h hr hw hn
   simp only at h hr hw hn ⊢
   by_cases hsh : (K.hp.contains d && isAppend b) = true
   ·rw [if_pos hsh] at h ⊢
    have hb : b = .append := by
     rw [qO5] at hsh
     cases b <;> first | rfl | (exfalso; have := hsh.2; cases this; done)
    subst hb
    simp only [qO6] at h ⊢
    obtain ⟨⟨l, s1⟩, h1, h2⟩ := h
    have hhp : K.hp.contains d = true := (qO5 _ _ ▸ hsh).1
    simp only [hhp, if_true] at hr hw hn ⊢
    have hk : ∀ k, Ag st s' k := fun k => hw k rfl
    obtain ⟨s1', g1, g2, g3, g4⟩ := zos ht (hn rfl) hk h1
    obtain ⟨r', k1, k2⟩ := append_upd g3 g4 (fun k => g2.ag k (hk k)) h2
    exact ⟨r', ⟨(l, s1'), g1, k1⟩, (g2.trans k2).mono fun _ _ => rfl⟩
   rw [if_neg hsh] at h ⊢
   split at h
   ·cases h
   rename_i happ
   rw [if_neg happ]
   have hlen : b = .len → ∀ {W : Nat → Prop} {nx : Bool}, ∃ r', aBuiltin L s' d b c.argTypes.toList (c.args.toList.map (operand st)) = some (v, r') ∧ Upd W nx st r s' r' := by
    intro hb W nx
    subst hb
    generalize c.argTypes.toList = ts at h ⊢
    generalize c.args.toList.map (operand st) = args at h ⊢
    match ts, args with
    | [], _ => simp [aBuiltin] at h
    | _ :: _, [] => simp [aBuiltin] at h
    | _ :: _, _ :: _ :: _ => simp [aBuiltin] at h
    | t :: ts, [x] =>
     simp only [aBuiltin, qO3, qO6] at h
     obtain ⟨i, hi, h2⟩ := h
     simp only [aBuiltin, hi, qO3, qO2]
     cases hd : i.desc <;> rw [hd] at h2 <;> simp only at h2 ⊢ <;> first | (cases h2; done) | exact za9 (Option.some.inj h2) | skip
     ·cases x <;> simp only at h2 ⊢ <;> first | (cases h2; done) | exact za9 (Option.some.inj h2)
     ·cases x <;> simp only [slLen, Option.map_eq_some_iff] at h2 ⊢ <;> first | (cases h2; done) | skip
      all_goals
       obtain ⟨n, h3, h4⟩ := h2
       obtain ⟨r', k1, k2⟩ := za9 (s' := s') (W := W) (nx := nx) h4
       exact ⟨r', ⟨n, h3, Option.some.inj k1⟩, k2⟩
   have hmm : b = .min ∨ b = .max → ∀ {W : Nat → Prop} {nx : Bool}, ∃ r', aBuiltin L s' d b c.argTypes.toList (c.args.toList.map (operand st)) = some (v, r') ∧ Upd W nx st r s' r' := by
    intro hb W nx
    unfold aBuiltin at h ⊢
    split at h <;> first | (rcases hb with e | e <;> cases e; done) | exact za9 (Option.some.inj h) | (cases h; done)
   have happ : b = .append → ∀ {W : Nat → Prop} (h1 : ∀ k, inF (aget d K.reads) k → Ag st s' k) (h2 : ∀ k, inF (aget d K.reads) k → W k) (h3 : W d) (hn' : s'.next = st.next), ∃ r', aBuiltin L s' d b c.argTypes.toList (c.args.toList.map (operand st)) = some (v, r') ∧ Upd W true st r s' r' := by
    intro hb W h1 h2 h3 hn'
    subst hb
    have hall : ∀ u ∈ c.args.toList.map (operand st), okRead (aget d K.reads) u = true := by
     have : (c.args.toList.map (operand st)).all (okRead (aget d K.reads)) = true := by simpa [isAppend] using happ
     exact List.all_eq_true.1 this
    generalize c.argTypes.toList = ts at h ⊢
    generalize c.args.toList.map (operand st) = args at h hall ⊢
    unfold aBuiltin at h ⊢
    split at h <;> first | (rename_i heq; cases heq; done) | (cases h; done) | skip
    simp only [qO3, qO6] at h
    obtain ⟨e, g1, g2⟩ := h
    simp only [g1, qO3, qO2]
    split at g2
    ·rename_i hb
     rw [if_pos hb]
     exact zo6 ht hn' (fun k hk => h1 k (zaw (hall _ (by simp)) hk)) (fun k hk => h1 k (zaw (hall _ (by simp)) hk)) (fun k hk => h2 k (zaw (hall _ (by simp)) hk)) h3 g2
    ·cases g2
   have hcopy : b = .copy → ∀ (hk : ∀ k, Ag st s' k), ∃ r', aBuiltin L s' d b c.argTypes.toList (c.args.toList.map (operand st)) = some (v, r') ∧ Upd (fun _ => True) true st r s' r' := by
    intro hb hk
    subst hb
    generalize c.argTypes.toList = ts at h ⊢
    generalize c.args.toList.map (operand st) = args at h ⊢
    unfold aBuiltin at h ⊢
    split at h <;> first | (rename_i heq; cases heq; done) | (cases h; done) | skip
    simp only [qO3, qO6] at h
    obtain ⟨e, h1, e', h2, ⟨n, new⟩, h3, cells, h4, h5⟩ := h
    simp only [h1, h2, qO3, qO2]
    rw [zf6 (fun k _ => hk k), zbu (hk _), h3, h4]
    simp only [qO2]
    split at h5
    ·rename_i hb
     rw [if_pos hb]
     simp only [qO1, qO4] at h5
     obtain ⟨rfl, rfl⟩ := h5
     exact ⟨_, rfl, ((zca (hk _)).mono fun _ _ => trivial).nx⟩
    ·cases h5
   have hclear : b = .clear → ∀ (hk : ∀ k, Ag st s' k), ∃ r', aBuiltin L s' d b c.argTypes.toList (c.args.toList.map (operand st)) = some (v, r') ∧ Upd (fun _ => True) true st r s' r' := by
    intro hb hk
    subst hb
    generalize c.argTypes.toList = ts at h ⊢
    generalize c.args.toList.map (operand st) = args at h ⊢
    unfold aBuiltin at h ⊢
    split at h <;> first | (rename_i heq; cases heq; done) | (cases h; done) | skip
    simp only [qO3, qO6] at h
    obtain ⟨e, h1, cells, h4, h5⟩ := h
    simp only [h1, qO3, qO2]
    rw [zbu (hk _), h4]
    simp only [qO2]
    split at h5
    ·rename_i hb
     rw [if_pos hb]
     simp only [qO1, qO4] at h5
     obtain ⟨rfl, rfl⟩ := h5
     exact ⟨_, rfl, ((zca (hk _)).mono fun _ _ => trivial).nx⟩
    ·cases h5
   have hdel : b = .delete → ∀ (hk : ∀ k, Ag st s' k), ∃ r', aBuiltin L s' d b c.argTypes.toList (c.args.toList.map (operand st)) = some (v, r') ∧ Upd (fun _ => True) true st r s' r' := by
    intro hb hk
    subst hb
    generalize c.argTypes.toList = ts at h ⊢
    generalize c.args.toList.map (operand st) = args at h ⊢
    unfold aBuiltin at h ⊢
    split at h <;> first | (rename_i heq; cases heq; done) | (cases h; done) | skip
    simp only [qO3, qO6] at h
    obtain ⟨e, h1, q, h4, h5⟩ := h
    simp only [h1, qO3, qO2]
    rw [zmg (hk _), h4]
    simp only [qO2]
    split at h5
    ·rename_i hb
     rw [if_pos hb]
     simp only [qO6] at h5
     obtain ⟨p, h6, h7⟩ := h5
     simp only [h6, qO2]
     simp only [qO1, qO4] at h7
     obtain ⟨rfl, rfl⟩ := h7
     exact ⟨_, rfl, ((zca (hk _)).mono fun _ _ => trivial).nx⟩
    ·cases h5
   have cv : ∀ {nx : Bool} {q : St → Option (AV × St)}, (∃ r', q s' = some (v, r') ∧ Upd (fun _ => True) nx st r s' r') → ∃ r', q s' = some (v, r') ∧ Upd (inF none) nx st r s' r' := fun ⟨r', a, b⟩ => ⟨r', a, b.mono fun _ _ => rfl⟩
   by_cases hba : b = .append
   ·subst hba
    have hhp : K.hp.contains d = false := by
     cases e : K.hp.contains d with
     | false => rfl
     | true => exact (hsh (by rw [e]; rfl)).elim
    simp only [hhp, Bool.false_eq_true, if_false] at hr hw hn ⊢
    refine happ rfl hr (fun k hk => ?_) ?_ (hn trivial)
    ·cases hrd : aget d K.reads with
     | none => rfl
     | some l => rw [hrd] at hk; exact inF_cons hk
    ·cases hrd : aget d K.reads with
     | none => rfl
     | some l => exact zph List.mem_cons_self
   cases b <;> first
    | exact (hba rfl).elim
    | exact hlen rfl
    | exact hmm (.inl rfl)
    | exact hmm (.inr rfl)
    | exact cv (q := fun z => aBuiltin L z d _ c.argTypes.toList (c.args.toList.map (operand st))) (hcopy rfl (fun k => hw k rfl))
    | exact cv (q := fun z => aBuiltin L z d _ c.argTypes.toList (c.args.toList.map (operand st))) (hclear rfl (fun k => hw k rfl))
    | exact cv (q := fun z => aBuiltin L z d _ c.argTypes.toList (c.args.toList.map (operand st))) (hdel rfl (fun k => hw k rfl))
    | exact absurd h (by simp [aBuiltin])
end
end Go.Sim
end
section
namespace Go.Sim
open Go
structure Eqv (st st' : St) : Prop where
 heap : ∀ k, aget k st'.heap = aget k st.heap
 next : st'.next = st.next
 tag : st'.tag = st.tag
 env : ∀ k, aget k st'.env = aget k st.env
theorem Eqv.refl (st : St) : Eqv st st := ⟨fun _ => rfl, rfl, rfl, fun _ => rfl⟩
theorem Eqv.symm {a b : St} (h : Eqv a b) : Eqv b a := ⟨fun i => (h.heap i).symm, h.next.symm, h.tag.symm, fun i => (h.env i).symm⟩
theorem Eqv.trans {a b c : St} (h : Eqv a b) (k : Eqv b c) : Eqv a c := ⟨fun i => (k.heap i).trans (h.heap i), k.next.trans h.next, k.tag.trans h.tag, fun i => (k.env i).trans (h.env i)⟩
theorem zi7 {k a : Nat} (h0 : Nat.beq (a % 3) 0 = true) (h : hits k a = true) : grp k = a / 3 := by
 unfold hits at h
 rw [h0] at h
 exact Nat.eq_of_beq_eq_true h
theorem zib {k a : Nat} (h0 : Nat.beq (a % 3) 0 = false) (h1 : Nat.beq (a % 3) 1 = true) (h : hits k a = true) : k = a / 3 := by
 unfold hits at h
 rw [h0, h1] at h
 exact Nat.eq_of_beq_eq_true h
theorem zlc {k a : Nat} (h0 : Nat.beq (a % 3) 0 = false) (h : hits k a = true) : grp k = grp (a / 3) := by
 cases h1 : Nat.beq (a % 3) 1 with
 | true => rw [zib h0 h1 h]
 | false =>
  unfold hits at h
  rw [h0, h1] at h
  simp only [qO5] at h
  exact Nat.eq_of_beq_eq_true h.1
theorem apartA_ok {a b k : Nat} (h : apartA a b = true) (ha : hits k a = true) : hits k b = false := by
 cases hb : hits k b with
 | false => rfl
 | true =>
  exfalso
  unfold apartA at h
  cases e1 : Nat.beq (a % 3) 0 <;> cases e2 : Nat.beq (b % 3) 0 <;> rw [e1, e2] at h <;> simp only at h
  ·rw [← zlc e1 ha, ← zlc e2 hb, Nat.beq_refl, Bool.not_true, Bool.false_or] at h
   cases e3 : Nat.beq (a % 3) 1 <;> cases e4 : Nat.beq (b % 3) 1 <;> rw [e3, e4] at h <;> simp only at h
   ·cases h
   ·rw [← zib e2 e4 hb, ha] at h; cases h
   ·rw [← zib e1 e3 ha, hb] at h; cases h
   ·rw [← zib e1 e3 ha, hb] at h; cases h
  ·rw [← zlc e1 ha, zi7 e2 hb, Nat.beq_refl] at h; cases h
  ·rw [← zlc e2 hb, zi7 e1 ha, Nat.beq_refl] at h; cases h
  ·have g := (zi7 e1 ha).symm.trans (zi7 e2 hb)
   have q1 := Nat.eq_of_beq_eq_true e1
   have q2 := Nat.eq_of_beq_eq_true e2
   have : a = b := by omega
   subst this
   rw [Nat.beq_refl] at h; cases h
theorem zer {a b : Option (List Nat)} (h : apartF a b = true) {k : Nat} (ha : inF a k) : ¬ inF b k := by
 intro hb
 cases a with
 | none =>
  cases b with
  | none => simp [apartF] at h
  | some l => cases l with
   | nil => cases hb
   | cons x l => simp [apartF] at h
 | some l =>
  cases l with
  | nil => cases ha
  | cons x l =>
   cases b with
   | none => simp [apartF] at h
   | some l' =>
    cases l' with
    | nil => cases hb
    | cons y l' =>
     simp only [apartF, List.all_eq_true] at h
     obtain ⟨c, hc, hk⟩ := List.any_eq_true.1 ha
     obtain ⟨d, hd, hk'⟩ := List.any_eq_true.1 hb
     rw [apartA_ok (h c hc d hd) hk] at hk'
     cases hk'
section
variable {L : Nat → Option TI} {K : Ann} {Γ : Oracle} {st : St} {ops : List Oper}
def Eff (L : Nat → Option TI) (K : Ann) (Γ : Oracle) (ops : List Oper) (o : Oper) (st : St) (v : AV) (s : St) : Prop :=
 (runs ops st o = some true ∧ denOp L K Γ st (o.dst.getD 0) o.type o.op = some (v, s)) ∨ (runs ops st o = some false ∧ v = .tup [] ∧ s = st)
theorem zg3 {o : Oper} {s : St} (h : denOper L K Γ ops o st = some s) : o.dst.getD 0 < K.nt ∧ ∃ v s', Eff L K Γ ops o st v s' ∧ s = putD s' o.dst v := by
 unfold denOper at h
 split at h
 ·rename_i hlt
  refine ⟨hlt, ?_⟩
  split at h
  ·rename_i hr
   simp only [Option.map_eq_some_iff] at h
   obtain ⟨⟨v, s'⟩, h1, rfl⟩ := h
   exact ⟨v, s', .inl ⟨hr, h1⟩, rfl⟩
  ·rename_i hr
   simp only [qO1] at h
   exact ⟨_, _, .inr ⟨hr, rfl, rfl⟩, h.symm⟩
  ·cases h
 ·cases h
theorem zfr {o : Oper} {v : AV} {s : St} (hlt : o.dst.getD 0 < K.nt) (h : Eff L K Γ ops o st v s) : denOper L K Γ ops o st = some (putD s o.dst v) := by
 unfold denOper
 rw [if_pos hlt]
 rcases h with ⟨h1, h2⟩ | ⟨h1, rfl, rfl⟩
 ·simp only [h1, h2, Option.map_some]
 ·simp only [h1]
def Looks (ops : List Oper) (o : Oper) (e e' : List (Nat × AV)) : Prop := ∀ d ∈ o.looksAt ops.toArray, aget d e' = aget d e
theorem Looks.operand {o : Oper} {e : List (Nat × AV)} (h : Looks ops o st.env e) : ∀ x ∈ o.op.operands, operand (st.slots e) x = operand st x := by
 intro x hx
 cases x <;> try rfl
 rename_i t
 simp only [Sim.operand]
 rw [h t (List.mem_append_left _ (List.mem_filterMap.2 ⟨.tmp t, by simpa using hx, rfl⟩))]
theorem Looks.runs {o : Oper} {e : List (Nat × AV)} (h : Looks ops o st.env e) : runs ops (st.slots e) o = runs ops st o := by
 unfold Sim.runs
 cases hg : o.guard with
 | none => rfl
 | some p =>
  obtain ⟨j, want⟩ := p
  simp only
  cases hd : (ops[j]?).bind (·.dst) with
  | none => rfl
  | some d =>
   simp only
   rw [h d (List.mem_append_right _ (by simp [hg, hd]))]
theorem Eff.slots {o : Oper} {v : AV} {s : St} {e : List (Nat × AV)} (h : Eff L K Γ ops o st v s) (hl : Looks ops o st.env e) : Eff L K Γ ops o (st.slots e) v (s.slots e) := by
 rcases h with ⟨h1, h2⟩ | ⟨h1, h2, h3⟩
 ·exact .inl ⟨by rw [hl.runs]; exact h1, by rw [zq1 hl.operand, h2]; rfl⟩
 ·exact .inr ⟨by rw [hl.runs]; exact h1, h2, by rw [h3]⟩
theorem Eff.keeps {o : Oper} {v : AV} {s : St} (h : Eff L K Γ ops o st v s) : s.env = st.env ∧ s.tag = st.tag := by
 rcases h with ⟨h1, h2⟩ | ⟨h1, h2, rfl⟩
 ·exact zpm v s h2
 ·exact ⟨rfl, rfl⟩
theorem runs_env {o : Oper} {s : St} (he : s.env = st.env) : runs ops s o = runs ops st o := by
 unfold Sim.runs
 rw [he]
theorem Eff.other {o : Oper} {v : AV} {s s' : St} (h : Eff L K Γ ops o st v s) (hl : Looks ops o st.env s'.env) (ht : s'.tag = st.tag)
  (hr : ∀ k, inF (fpOf L K (o.dst.getD 0) o.op).rd k → Ag st s' k) (hw : ∀ k, inF (fpOf L K (o.dst.getD 0) o.op).wr k → Ag st s' k) (hn : (fpOf L K (o.dst.getD 0) o.op).nx = true → s'.next = st.next) :
  ∃ r', Eff L K Γ ops o s' v r' ∧ Upd (inF (fpOf L K (o.dst.getD 0) o.op).wr) (fpOf L K (o.dst.getD 0) o.op).nx st s s' r' := by
 have h' := h.slots hl
 rcases h' with ⟨h1, h2⟩ | ⟨h1, h2, h3⟩
 ·obtain ⟨r', k1, k2⟩ := zpu (st := st.slots s'.env) (s' := s') rfl ht hr hw hn h2
  exact ⟨r', .inl ⟨by rw [runs_env (s := s') (st := st.slots s'.env) rfl]; exact h1, k1⟩, ⟨k2.env, k2.tag, k2.ag, k2.out, k2.next, k2.still⟩⟩
 ·have hs : s.heap = st.heap ∧ s.next = st.next := by
   have e := congrArg St.heap h3
   have e2 := congrArg St.next h3
   exact ⟨e, e2⟩
  refine ⟨s', .inr ⟨by rw [runs_env (s := s') (st := st.slots s'.env) rfl]; exact h1, h2, rfl⟩, rfl, rfl, fun k hk => by unfold Ag at *; rw [hs.1]; exact hk, fun k _ => ⟨by rw [hs.1], rfl⟩, fun e => e.trans hs.2.symm, fun _ => ⟨hs.2, rfl⟩⟩
theorem zdh {s : St} {d : Option Nat} {v : AV} (k : Nat) : aget k (putD s d v).env = if d = some k then some v else aget k s.env := by
 cases d with
 | none => simp [putD]
 | some d => simp only [putD, zan, qO1]
theorem zb5 {s : St} {d : Option Nat} {v : AV} : (putD s d v).heap = s.heap ∧ (putD s d v).next = s.next ∧ (putD s d v).tag = s.tag := by cases d <;> exact ⟨rfl, rfl, rfl⟩
theorem zpy {o : Oper} {st' s : St} (h : Eqv st st') (hd : denOper L K Γ ops o st = some s) : ∃ s', denOper L K Γ ops o st' = some s' ∧ Eqv s s' := by
 obtain ⟨hlt, v, s1, he, rfl⟩ := zg3 hd
 obtain ⟨r', k1, k2⟩ := he.other (s' := st') (fun k _ => h.env k) h.tag (fun k _ => h.heap k) (fun k _ => h.heap k) (fun _ => h.next)
 refine ⟨_, zfr hlt k1, fun k => ?_, ?_, ?_, fun k => ?_⟩
 ·rw [zb5.1, zb5.1]; exact k2.ag k (h.heap k)
 ·rw [zb5.2.1, zb5.2.1]; exact k2.next h.next
 ·rw [zb5.2.2, zb5.2.2, k2.tag, he.keeps.2]; exact h.tag
 ·rw [zdh, zdh]
  split
  ·rfl
  ·rw [k2.env, h.env, he.keeps.1]
theorem zo8 {x y : Oper} (ht : turnOk L K ops.toArray x y = true) {s1 s2 : St} (h1 : denOper L K Γ ops x st = some s1) (h2 : denOper L K Γ ops y s1 = some s2) :
  ∃ t1 t2, denOper L K Γ ops y st = some t1 ∧ denOper L K Γ ops x t1 = some t2 ∧ Eqv s2 t2 := by
 simp only [turnOk, qO5, Bool.not_eq_true', Bool.and_eq_false_iff] at ht
 obtain ⟨hap, ⟨⟨f1, f2⟩, f3⟩, f4⟩ := ht
 obtain ⟨a1, a2, a3⟩ := Oper.apart_spec hap
 obtain ⟨hx, vx, a, ex, rfl⟩ := zg3 h1
 obtain ⟨hy, vy, b, ey, rfl⟩ := zg3 h2
 have kx := ex.keeps
 have ky := ey.keeps
 obtain ⟨_, _, ux⟩ := ex.other (s' := st) (fun _ _ => rfl) rfl (fun _ _ => rfl) (fun _ _ => rfl) (fun _ => rfl)
 generalize hpx : fpOf L K (x.dst.getD 0) x.op = p at *
 generalize hpy : fpOf L K (y.dst.getD 0) y.op = q at *
 have hs1 : (putD a x.dst vx).heap = a.heap ∧ (putD a x.dst vx).next = a.next ∧ (putD a x.dst vx).tag = a.tag := zb5
 have far : ∀ k, ¬ inF p.wr k → Ag (putD a x.dst vx) st k := fun k hk => by
  unfold Ag
  rw [hs1.1]
  exact (ux.out k hk).1.symm
 obtain ⟨b', ey', u1⟩ := ey.other (s' := st) (by
   intro k hk
   rw [zdh, if_neg (fun e => a1 k e hk), kx.1]) (by rw [hs1.2.2, kx.2]) (fun k hk => far k fun h => zer f2 h (hpy ▸ hk)) (fun k hk => far k fun h => zer f3 h (hpy ▸ hk))
  (fun hq => by rw [hs1.2.1]; exact ((ux.still (f4.resolve_right (by rw [← hpy, hq]; simp))).1).symm)
 rw [hpy] at u1
 have hb' := ey'.keeps
 have ht1 : (putD b' y.dst vy).heap = b'.heap ∧ (putD b' y.dst vy).next = b'.next ∧ (putD b' y.dst vy).tag = b'.tag := zb5
 have far2 : ∀ k, ¬ inF q.wr k → Ag st (putD b' y.dst vy) k := fun k hk => by
  unfold Ag
  rw [ht1.1]
  exact (u1.out k hk).2
 obtain ⟨a', ex', u2⟩ := ex.other (s' := putD b' y.dst vy) (by
   intro k hk
   rw [zdh, if_neg (fun e => a3 k e hk), hb'.1]) (by rw [ht1.2.2, hb'.2]) (fun k hk => far2 k (zer f1 (hpx ▸ hk))) (fun k hk => far2 k (zer f3 (hpx ▸ hk)))
  (fun hq => by rw [ht1.2.1]; exact (u1.still (f4.resolve_left (by rw [← hpx, hq]; simp))).2)
 rw [hpx] at u2
 refine ⟨_, _, zfr hy ey', zfr hx ex', fun k => ?_, ?_, ?_, fun k => ?_⟩
 ·rw [zb5.1, zb5.1]
  by_cases hk : inF q.wr k
  ·have hkx : ¬ inF p.wr k := fun h => zer f3 h hk
   rw [(u2.out k hkx).2, ht1.1]
   exact u1.ag k (far k hkx)
  ·rw [(u1.out k hk).1, hs1.1]
   exact u2.ag k (far2 k hk)
 ·rw [zb5.2.1, zb5.2.1]
  rcases f4 with hf | hf
  ·rw [(u2.still hf).2, ht1.2.1]
   exact u1.next (by rw [hs1.2.1]; exact ((ux.still hf).1).symm)
  ·rw [(u1.still hf).1, hs1.2.1]
   exact u2.next (by rw [ht1.2.1]; exact (u1.still hf).2)
 ·rw [zb5.2.2, zb5.2.2, u2.tag, ht1.2.2, ky.2, hs1.2.2, kx.2, hb'.2]
 ·rw [zdh, zdh, u2.env, ky.1, zdh, zdh, hb'.1, kx.1]
  by_cases c1 : x.dst = some k
  ·rw [if_pos c1, if_neg (a2 k c1), if_pos c1]
  ·rw [if_neg c1, if_neg c1]
def denIx (L : Nat → Option TI) (K : Ann) (Γ : Oracle) (ops : List Oper) : List Nat → St → Option St
 | [], st => some st
 | i :: l, st => match ops[i]? with
  | some o => (denOper L K Γ ops o st).bind (denIx L K Γ ops l)
  | none => none
theorem zf2 {i : Nat} {l : List Nat} {s : St} (h : denIx L K Γ ops (i :: l) st = some s) : ∃ o s1, ops[i]? = some o ∧ denOper L K Γ ops o st = some s1 ∧ denIx L K Γ ops l s1 = some s := by
 simp only [denIx] at h
 split at h
 ·rename_i o ho
  simp only [qO6] at h
  obtain ⟨s1, h1, h2⟩ := h
  exact ⟨o, s1, ho, h1, h2⟩
 ·cases h
theorem zlt {i : Nat} {l : List Nat} {s s1 : St} {o : Oper} (ho : ops[i]? = some o) (h1 : denOper L K Γ ops o st = some s1) (h2 : denIx L K Γ ops l s1 = some s) : denIx L K Γ ops (i :: l) st = some s := by
 simp only [denIx, ho, h1, qO2, h2]
theorem zn6 : ∀ {l : List Nat} {st st' s : St}, Eqv st st' → denIx L K Γ ops l st = some s → ∃ s', denIx L K Γ ops l st' = some s' ∧ Eqv s s'
 | [], st, st', s, h, hd => by simp only [denIx, qO1] at hd; subst hd; exact ⟨st', rfl, h⟩
 | i :: l, st, st', s, h, hd => by
  obtain ⟨o, s1, ho, h1, h2⟩ := zf2 hd
  obtain ⟨t1, k1, k2⟩ := zpy h h1
  obtain ⟨t2, k3, k4⟩ := zn6 k2 h2
  exact ⟨t2, zlt ho k1 k3, k4⟩
theorem zks {i : Nat} {y : Oper} (hy : ops[i]? = some y) {B : List Nat} : ∀ {A : List Nat} {st s : St}, (∀ j ∈ A, ∀ x, ops[j]? = some x → turnOk L K ops.toArray x y = true) → denIx L K Γ ops (A ++ i :: B) st = some s →
  ∃ s', denIx L K Γ ops (i :: (A ++ B)) st = some s' ∧ Eqv s s'
 | [], st, s, _, h => ⟨s, h, Eqv.refl s⟩
 | j :: A, st, s, ht, h => by
  obtain ⟨x, s1, hx, h1, h2⟩ := zf2 h
  obtain ⟨s', k1, k2⟩ := zks hy (fun j hj => ht j (by simp [hj])) h2
  obtain ⟨y', s2, hy', k3, k4⟩ := zf2 k1
  rw [hy] at hy'
  simp only [qO1] at hy'
  subst hy'
  obtain ⟨t1, t2, q1, q2, q3⟩ := zo8 (ht j (by simp) x hx) h1 k3
  obtain ⟨s'', q4, q5⟩ := zn6 q3 k4
  exact ⟨s'', zlt hy q1 (zlt hx q2 q4), k2.trans q5⟩
theorem zj8 : ∀ (l : List Oper) (k : Nat) (st : St), ops.drop k = l → denIx L K Γ ops (List.range' k l.length) st = denOps L K Γ ops l st
 | [], k, st, h => rfl
 | o :: l, k, st, h => by
  have ho : ops[k]? = some o := by
   have := congrArg (fun x => x[0]?) h
   simpa using this
  have hl : ops.drop (k + 1) = l := by
   have := congrArg (List.drop 1) h
   simpa [Nat.add_comm] using this
  simp only [List.length_cons, List.range'_succ, denIx, ho, denOps]
  cases denOper L K Γ ops o st with
  | none => rfl
  | some s => simp only [qO2]; exact zj8 l (k + 1) s hl
end
section
variable {P : Program} {c : Cx} {nt : Nat} {st : St} {a : Act} {w : World} {m : Mp} {L : Nat → Option TI} {K : Ann} {Γ : Oracle}
theorem runs_ok (h : RelM c nt st a w m) {ops : List Oper} {o : Oper} {b : Bool} (hr : runs ops st o = some b) : Region.wanted o (yielded ops.toArray a.tmps) = b := by
 unfold runs at hr
 unfold Region.wanted
 cases hg : o.guard with
 | none => rw [hg] at hr; simpa using hr
 | some p =>
  obtain ⟨j, want⟩ := p
  rw [hg] at hr
  simp only at hr ⊢
  cases hd : (ops[j]?).bind (·.dst) with
  | none => rw [hd] at hr; cases hr
  | some d =>
   rw [hd] at hr
   simp only at hr
   have hy : yielded ops.toArray a.tmps j = match a.tmps[d]? with | some (.bool b) => some b | _ => none := by
    unfold yielded
    rw [List.getElem?_toArray, hd]
    rfl
   rw [hy]
   cases he : aget d st.env with
   | none => rw [he] at hr; cases hr
   | some v =>
    rw [he] at hr
    have hv := h.env d v he
    rw [Array.getD_eq_getD_getElem?] at hv
    cases v <;> (try simp only at hr) <;> first | (cases hr; done) | skip
    case bool x =>
     simp only [qO1] at hr
     have e := hv.bool_inv
     cases ht : a.tmps[d]? with
     | none => rw [ht] at e; simp [undef] at e
     | some u => rw [ht] at e; simp at e; subst e; simp [← hr]
    case tup vs =>
     cases vs with
     | cons => first | (simp at hr; done) | cases hr
     | nil =>
      simp only [qO1] at hr
      obtain ⟨us, e, hus⟩ := hv.tup_inv
      subst hr
      cases ht : a.tmps[d]? with
      | none => simp
      | some u => rw [ht] at e; simp at e; subst e; simp
theorem RelM.eqv (h : RelM c nt st a w m) {st' : St} (e : Eqv st st') : RelM c nt st' a w m := by
 have hl : Later (At st w m) (At st' w m) := by
  refine ⟨Pres.refl _ _, fun b o _ ho => ?_, fun k b hb _ => ⟨b, by rw [← e.heap]; exact hb, rfl, rfl, rfl, rfl⟩, fun σ x => ?_, fun _ _ _ x => .inr x, rfl, rfl⟩
  ·obtain ⟨k, blk, h1, h2⟩ := ho
   exact ⟨k, blk, by rw [← e.heap]; exact h1, h2⟩
  ·show okS st'.tag st'.next σ
   rw [e.tag, e.next]; exact x
 refine ⟨h.defers, h.size, by rw [e.next]; exact h.next1, h.mB, fun k v hk => (h.env k v (by rw [← e.env]; exact hk)).move hl (.inl (Nat.le_refl _)), h.pres, fun k b hk => ?_, fun k j b b' hkj hk hj => h.apart k j b b' hkj (by rw [← e.heap]; exact hk) (by rw [← e.heap]; exact hj)⟩
 exact (h.blk k b (by rw [← e.heap]; exact hk)).keep hl e.tag rfl rfl (Nat.le_refl _) (fun cs ty fr hc => ⟨cs, hc, rfl, fun _ _ _ => rfl⟩) fun es n hc _ _ => hc
theorem zmh (hnt : K.nt ≤ 500000) (hL : LOK P L) (hΓ : OracleOK P Γ) (hG : GlobK P K c) {ops : List Oper} {Q : Exit → Act → World → Prop} {k : Act → World → Prop} {i : Nat} {o : Oper} (hi : ops[i]? = some o) (h : RelM c K.nt st a w m) {st1 : St}
  (h1 : denOper L K Γ ops o st = some st1) (hk : ∀ a' w' m', RelM c K.nt st1 a' w' m' → k a' w') (r0 : Option Nat) (n : Nat) : wpOpIn (fenR r0) n P ops.toArray Q i k a w := by
 unfold wpOpIn
 rw [List.getElem?_toArray, hi]
 simp only
 unfold denOper at h1
 split at h1
 ·rename_i hlt
  cases hr : runs ops st o with
  | none => rw [hr] at h1; cases h1
  | some b =>
   have hw := runs_ok h hr
   rw [hr] at h1
   cases b with
   | true =>
    rw [if_pos hw]
    simp only at h1
    cases hop : denOp L K Γ st (o.dst.getD 0) o.type o.op with
    | none => rw [hop] at h1; cases h1
    | some p =>
     obtain ⟨v, st2⟩ := p
     rw [hop] at h1
     simp only [Option.map_some, qO1] at h1
     subst h1
     exact zet hL hΓ hG h rfl hop (Nat.lt_of_lt_of_le hlt hnt) r0 n _ _ fun y w' m' hR hV => hk _ _ m' (hR.put hlt hV)
   | false =>
    rw [if_neg (by rw [hw]; simp)]
    simp only [qO1] at h1
    subst h1
    exact ⟨fun _ _ => trivial, hk _ _ m (h.put hlt (.tup (vs := []) (.nil _)))⟩
 ·cases h1
def left (n : Nat) (listed : Array Bool) : List Nat := (List.range n).filter fun i => !listed.getD i true
def Shut (ops : Array Oper) (listed : Array Bool) : Prop := ∀ i o, ops[i]? = some o → listed.getD i false = true → ∀ j ∈ directs o, listed.getD j false = true
theorem zj2 {o : Oper} {j : Nat} : j ∈ directs o ↔ ∃ e ∈ o.after, Region.binds .any e = true ∧ e.on = j := by
 simp only [directs, List.mem_filterMap, Array.mem_toList_iff]
 constructor
 ·rintro ⟨e, he, h⟩
  split at h
  ·rename_i hb
   simp only [qO1] at h
   exact ⟨e, he, hb, h⟩
  ·cases h
 ·rintro ⟨e, he, hb, rfl⟩
  exact ⟨e, he, by rw [if_pos hb]⟩
theorem zey {ops : Array Oper} {listed : Array Bool} (hs : Shut ops listed) {i : Nat} {o : Oper} (hi : ops[i]? = some o) (hd : ∀ j ∈ directs o, listed.getD j false = true) :
  ∀ n, ∀ j ∈ waits ops n i, listed.getD j false = true
 | 0, j, hj => by simp only [waits, hi] at hj; exact hd j hj
 | n + 1, j, hj => by
  simp only [waits, List.mem_eraseDups, List.mem_append, List.mem_flatMap] at hj
  rcases hj with hj | ⟨k, hk, hj⟩
  ·exact zey hs hi hd n j hj
  ·split at hj
   ·rename_i o' ho'
    exact hs k o' ho' (zey hs hi hd n k hk) j hj
   ·cases hj
theorem getD_set {listed : Array Bool} {i j : Nat} {d : Bool} (hi : i < listed.size) : (listed.setIfInBounds i true).getD j d = if i = j then true else listed.getD j d := by
 rw [Array.getD_eq_getD_getElem?, Array.getD_eq_getD_getElem?, Array.getElem?_setIfInBounds]
 by_cases h : i = j
 ·subst h; simp [hi]
 ·simp [h]
theorem left_set {n : Nat} {listed : Array Bool} {i : Nat} (hi : i < listed.size) : left n (listed.setIfInBounds i true) = (left n listed).filter (· != i) := by
 unfold left
 rw [List.filter_filter]
 congr 1
 funext j
 rw [getD_set hi]
 by_cases h : i = j
 ·subst h; simp
 ·simp [h, Ne.symm h]
theorem split_at {i : Nat} : ∀ {l : List Nat}, l.Pairwise (· < ·) → i ∈ l → ∃ A B, l = A ++ i :: B ∧ l.filter (· != i) = A ++ B ∧ ∀ j ∈ A, j < i
 | [], _, h => by cases h
 | k :: l, hp, h => by
  obtain ⟨h1, h2⟩ := List.pairwise_cons.1 hp
  by_cases e : k = i
  ·subst e
   refine ⟨[], l, rfl, ?_, by simp⟩
   simp only [List.filter_cons, bne_self_eq_false, Bool.false_eq_true, if_false, List.nil_append]
   rw [List.filter_eq_self]
   intro j hj
   have := h1 j hj
   simp only [bne_iff_ne]; omega
  ·have hi : i ∈ l := by
    rcases List.mem_cons.1 h with h | h
    ·exact (e h.symm).elim
    ·exact h
   obtain ⟨A, B, a1, a2, a3⟩ := split_at h2 hi
   refine ⟨k :: A, B, by rw [a1]; rfl, ?_, ?_⟩
   ·simp only [List.filter_cons, bne_iff_ne, ne_eq, e, not_false_eq_true, if_true, a2]; rfl
   ·intro j hj
    rcases List.mem_cons.1 hj with rfl | hj
    ·exact h1 i hi
    ·exact a3 j hj
theorem zj0 (n : Nat) (listed : Array Bool) : (left n listed).Pairwise (· < ·) := List.Pairwise.filter _ List.pairwise_lt_range
theorem any_wp (hnt : K.nt ≤ 500000) (hL : LOK P L) (hΓ : OracleOK P Γ) (hG : GlobK P K c) {ops : List Oper} (hok : drawOk L K ops.toArray = true) {Q : Exit → Act → World → Prop} {st' : St} (hq : ∀ a' w' m', RelM c K.nt st' a' w' m' → Q .normal a' w') (r0 : Option Nat) (n : Nat) :
  ∀ (fuel : Nat) (listed : Array Bool) (st s : St) (a : Act) (w : World) (m : Mp), listed.size = ops.length → Shut ops.toArray listed → (left ops.length listed).length ≤ fuel → RelM c K.nt st a w m →
   denIx L K Γ ops (left ops.length listed) st = some s → Eqv s st' → wpAnyIn (fenR r0) n P .any ops.toArray Q fuel listed a w := by
 have hdr := List.all_eq_true.1 hok
 have turn : ∀ i y, ops[i]? = some y → (∀ j ∈ directs y, j < i) ∧ ∀ j x, j < i → ops[j]? = some x → j ∈ waits ops.toArray 12 i ∨ turnOk L K ops.toArray x y = true := by
  intro i y hy
  have hlt : i < ops.length := (List.getElem?_eq_some_iff.1 hy).1
  have := hdr i (by simpa using hlt)
  rw [List.getElem?_toArray, hy] at this
  simp only [qO5, List.all_eq_true, decide_eq_true_eq, List.mem_range] at this
  obtain ⟨t1, t2⟩ := this
  refine ⟨t1, fun j x hj hx => ?_⟩
  have := t2 j hj
  rw [List.getElem?_toArray, hx] at this
  simpa using this
 intro fuel
 have ready_left : ∀ (listed : Array Bool) i, i ∈ Region.ready .any ops.toArray listed → i ∈ left ops.length listed ∧ i < ops.length ∧ ∃ o, ops[i]? = some o ∧ ∀ j ∈ directs o, listed.getD j false = true := by
  intro listed i hi
  obtain ⟨h1, o, h2, h3⟩ := mem_ready.1 hi
  rw [List.getElem?_toArray] at h2
  have hlt : i < ops.length := (List.getElem?_eq_some_iff.1 h2).1
  refine ⟨List.mem_filter.2 ⟨by simpa using hlt, by simp [h1]⟩, hlt, o, h2, fun j hj => ?_⟩
  obtain ⟨e, he, hb, rfl⟩ := zj2.1 hj
  exact h3 e he hb
 have none_left : ∀ (listed : Array Bool), listed.size = ops.length → Region.ready .any ops.toArray listed = [] → left ops.length listed = [] := by
  intro listed hsz hr
  cases hl : left ops.length listed with
  | nil => rfl
  | cons i l =>
   exfalso
   have hsort := zj0 ops.length listed
   rw [hl] at hsort
   have hmem : i ∈ left ops.length listed := by rw [hl]; simp
   obtain ⟨m1, m2⟩ := List.mem_filter.1 hmem
   have hlt : i < ops.length := by simpa using m1
   obtain ⟨y, hy⟩ : ∃ y, ops[i]? = some y := ⟨ops[i], by simp [hlt]⟩
   have : i ∈ Region.ready .any ops.toArray listed := by
    refine mem_ready.2 ⟨by simpa using m2, y, by rw [List.getElem?_toArray]; exact hy, fun e he hb => ?_⟩
    have hj := (turn i y hy).1 e.on (zj2.2 ⟨e, he, hb, rfl⟩)
    have hne : e.on ∉ left ops.length listed := by
     rw [hl]
     intro hx
     rcases List.mem_cons.1 hx with hx | hx
     ·omega
     ·have := (List.pairwise_cons.1 hsort).1 _ hx
      omega
    have hjl : e.on < listed.size := by omega
    have : listed.getD e.on true = true := by
     by_cases hc : listed.getD e.on true = true
     ·exact hc
     ·exact (hne (List.mem_filter.2 ⟨by simp; omega, by simpa using hc⟩)).elim
    rw [Array.getD_eq_getD_getElem?] at this ⊢
    rw [Array.getElem?_eq_getElem hjl] at this ⊢
    exact this
   rw [hr] at this
   cases this
 induction fuel with
 | zero =>
  intro listed st s a w m hsz hsh hf h hd he
  have hl : left ops.length listed = [] := List.eq_nil_of_length_eq_zero (by omega)
  refine ⟨?_, ?_⟩
  ·cases hr : Region.ready .any ops.toArray listed with
   | nil => rfl
   | cons i l =>
    have := (ready_left listed i (by rw [hr]; simp)).1
    rw [hl] at this
    cases this
  ·rw [hl] at hd
   simp only [denIx, qO1] at hd
   subst hd
   exact hq a w m (h.eqv he)
 | succ fuel ih =>
  intro listed st s a w m hsz hsh hf h hd he
  refine ⟨fun hr => ?_, fun i hi => ?_⟩
  ·rw [none_left listed hsz hr] at hd
   simp only [denIx, qO1] at hd
   subst hd
   exact hq a w m (h.eqv he)
  ·obtain ⟨hil, hlt, y, hy, hdy⟩ := ready_left listed i hi
   obtain ⟨A, B, e1, e2, e3⟩ := split_at (zj0 _ _) hil
   rw [e1] at hd
   have hw := zey hsh (by rw [List.getElem?_toArray]; exact hy) hdy 12
   obtain ⟨s', k1, k2⟩ := zks hy (fun j hj x hx => by
    rcases (turn i y hy).2 j x (e3 j hj) hx with h1 | h1
    ·have hjl : j ∈ left ops.length listed := by rw [e1]; simp [hj]
     have h2 := hw j h1
     have h3 := (List.mem_filter.1 hjl).2
     have hjs : j < listed.size := by rw [hsz]; exact (List.getElem?_eq_some_iff.1 hx).1
     rw [Array.getD_eq_getD_getElem?, Array.getElem?_eq_getElem hjs] at h2 h3
     simp only [Option.getD_some] at h2 h3
     rw [h2] at h3
     cases h3
    ·exact h1) hd
   obtain ⟨y', s1, hy', k3, k4⟩ := zf2 k1
   rw [hy] at hy'
   simp only [qO1] at hy'
   subst hy'
   refine zmh hnt hL hΓ hG hy h k3 (fun a' w' m' hR => ?_) r0 n
   have hset : left ops.length (listed.setIfInBounds i true) = A ++ B := by rw [left_set (by omega), e2]
   refine ih _ s1 s' a' w' m' (by simp [hsz]) ?_ ?_ hR (by rw [hset]; exact k4) (k2.symm.trans he)
   ·intro k o ho hk j hj
    rw [getD_set (by omega)] at hk ⊢
    split
    ·rfl
    ·split at hk
     ·rename_i e; subst e
      rw [List.getElem?_toArray, hy] at ho
      simp only [qO1] at ho
      subst ho
      exact hdy j hj
     ·exact hsh k o ho hk j hj
   ·rw [hset]
    have : (left ops.length listed).length = A.length + (B.length + 1) := by rw [e1]; simp
    simp only [List.length_append]; omega
theorem region_any (hnt : K.nt ≤ 500000) (hm : P.follows .mixedOrders = true) (hL : LOK P L) (hΓ : OracleOK P Γ) (hG : GlobK P K c) {id : Nat} {ops : List Oper} (hok : drawOk L K ops.toArray = true) {Q : Exit → Act → World → Prop} {st' : St} (h : RelM c K.nt st a w m)
  (hd : denOps L K Γ ops ops st = some st') (hq : ∀ a' w' m', RelM c K.nt st' a' w' m' → Q .normal a' w') (r0 : Option Nat) (n : Nat) : (Code.region id ops.toArray true).wpIn (fenR r0) n P Q a w := by
 refine wpIn_region_any hm ?_
 have hr : RelM c K.nt st a { w with drawn := w.drawn + 1 } m := h.drew.1
 have hl : left ops.length (Array.replicate ops.toArray.size false) = List.range ops.length := by
  unfold left
  rw [List.filter_eq_self]
  intro i hi
  have : i < ops.length := by simpa using hi
  rw [Array.getD_eq_getD_getElem?]
  simp [this]
 refine any_wp hnt hL hΓ hG hok hq r0 n _ _ st st' a _ m (by simp) ?_ (by rw [hl]; simp) hr ?_ (Eqv.refl _)
 ·intro i o ho hi
  rw [Array.getD_eq_getD_getElem?, Array.getElem?_replicate] at hi
  split at hi <;> simp at hi
 ·rw [hl, List.range_eq_range', zj8 ops 0 st rfl]
  exact hd
end
end Go.Sim
end
section
namespace Go.Sim
open Go
structure Sw (w w' : World) : Prop where
 size : w'.heap.size = w.heap.size
 cells : ∀ (b : Nat) (cs : Array Value) (e : TypeId) (fr : Nat × Nat), w.heap[b]? = some (.cells cs e fr) → w'.heap[b]? = some (.cells cs e fr)
 maps : ∀ (b : Nat) (es : Array MapEntry) (n : Nat), w.heap[b]? = some (.map es n) → w'.heap[b]? = some (.map es n)
abbrev Records (w w' : World) : Prop := ∀ (b : Nat) (r : Loop), w.heap[b]? = some (Obj.loop r) → w'.heap[b]? = some (Obj.loop r)
theorem Sw.putObj {w : World} {l : Nat} {ob o : Obj} (hb : w.heap[l]? = some ob) (h1 : ∀ c e fr, ob ≠ Obj.cells c e fr) (h2 : ∀ es n, ob ≠ Obj.map es n) : Sw w (w.putObj l o) := by
 refine ⟨World.putObj_size, fun b cs e fr h => ?_, fun b es n h => ?_⟩
 ·rw [World.putObj_heap_other (fun e' => by subst e'; rw [hb] at h; cases h; exact h1 _ _ _ rfl)]; exact h
 ·rw [World.putObj_heap_other (fun e' => by subst e'; rw [hb] at h; cases h; exact h2 _ _ rfl)]; exact h
theorem Sw.cell {w w' : World} (h : Sw w w') {b o : Nat} {v : Value} (hc : w.cell? ⟨b, o, none⟩ = some v) : w'.cell? ⟨b, o, none⟩ = some v := by
 obtain ⟨c, e, fr, hb, ho⟩ := zhh hc
 rw [zax (h.cells _ _ _ _ hb)]; exact ho
theorem top_calm {c : AV} (h : c.top = true) : c.calm = true := by cases c <;> first | rfl | (simp [AV.top] at h; done)
mutual
theorem VR.sw {s : S} {w' : World} (h : Sw s.w w') : ∀ {c : AV} {v : Value}, (c.calm = true ∨ Records s.w w') → VR s c v → VR ⟨w', s.heap, s.m, s.tag, s.next⟩ c v
 | _, _, _, .junk v => .junk v
 | _, _, _, .bool b => .bool b
 | _, _, _, .int k n => .int k n
 | _, _, _, .str b => .str b
 | _, _, _, .nilp => .nilp
 | _, _, _, .ref hok hl => .ref hok hl
 | _, _, _, .msl hok hv hl => .msl hok hv hl
 | _, _, k, .isl ha hcap hlen hr hv => .isl ha hcap hlen (fun k v hk => ⟨h.cell (hr k v hk).1, (hr k v hk).2⟩) (hv.sw h (.inl rfl))
 | _, _, _, .islnil => .islnil
 | _, _, _, .fsl hB hb hsz hcap hlen hv hc hf => .fsl hB (h.cells _ _ _ _ hb) hsz hcap hlen hv hc hf
 | _, _, _, .fslnil => .fslnil
 | _, _, _, .nsl => .nsl
 | _, _, _, .ipt ha hr hv => .ipt ha (fun k v hk => ⟨h.cell (hr k v hk).1, (hr k v hk).2⟩) (hv.sw h (.inl rfl))
 | _, _, _, .agg hv => .agg (hv.sw h (.inl rfl))
 | _, _, k, .tup hv => .tup (hv.sw h (k.elim (fun e => .inr (.inl e)) fun e => .inr (.inr e)))
 | _, _, _, .nilI => .nilI
 | _, _, _, .nilF => .nilF
 | _, _, _, .nilM => .nilM
 | _, _, _, .gref g => .gref g
 | _, _, _, .err hg => .err hg
 | _, _, _, .mref hok hl => .mref hok hl
 | _, _, _, .fn hv => .fn (hv.sw h (.inl rfl))
 | _, _, _, .imp (r := r) hm hr hk hv tk tv => .imp (h.maps _ _ _ hm) hr (hk.sw h (.inr (.inl tk))) (hv.sw h (.inr (.inl tv))) tk tv
 | _, _, k, .yld hl h1 h2 h3 hv => .yld (k.elim (fun e => by cases e) fun e => e _ _ hl) h1 h2 h3 (hv.sw h (.inl rfl))
 | _, _, _, .veil ht h1 => .veil ht h1
theorem VRs.sw {s : S} {w' : World} (h : Sw s.w w') : ∀ {one : Bool} {cs : List AV} {vs : List Value}, (one = true ∨ cs.all AV.top = true ∨ Records s.w w') → VRs s one cs vs → VRs ⟨w', s.heap, s.m, s.tag, s.next⟩ one cs vs
 | _, _, _, _, .nil _ => .nil _
 | _, _, _, k, .cons h1 hv hs => .cons h1
   (hv.sw h (k.elim (fun e => .inl (top_calm (h1 e).2)) fun k => k.elim (fun e => .inl (top_calm (by rw [List.all_cons, qO5] at e; exact e.1))) .inr))
   (hs.sw h (k.elim .inl fun k => .inr (k.elim (fun e => .inl (by rw [List.all_cons, qO5] at e; exact e.2)) .inr)))
end
theorem GlobC.sw {c : Cx} (h : GlobC c) {w0 : World} (hs : Sw c.w0 w0) : GlobC { c with w0 := w0 } := by
 intro g v hg
 obtain ⟨⟨h1, h2⟩, h3⟩ := h g v hg
 exact ⟨⟨hs.cell h1, h2⟩, fun T ad e => let ⟨cs, e', hb⟩ := h3 T ad e; ⟨cs, e', hs.cells _ _ _ _ hb⟩⟩
section
variable {P : Program} {c : Cx} {nt : Nat} {st : St} {a : Act} {w : World} {m : Mp}
theorem RelM.swap (h : RelM c nt st a w m) {w0 : World} {a2 : Act} {w2 : World} (hs : Sw w w2) (ht : a2.tmps = a.tmps) (hz : w0.heap.size = c.w0.heap.size) (hd : Marks w0.heap.size w2 a2.defers) (hp : Pres c.A w0 w2)
  (hG : GlobC { c with w0 := w0 }) (hk : (∀ k v, aget k st.env = some v → v.calm = true) ∨ Records w w2) : RelM { c with w0 := w0 } nt st a2 w2 m := by
 refine ⟨hd, by rw [ht]; exact h.size, h.next1, ?_, fun k v hv => ?_, hp, fun k b hb => ?_, h.apart⟩
 ·obtain ⟨h1, h2, h3, h4, h5, h6⟩ := h.mB
  exact ⟨h1.trans hz.symm, fun b o ho => by show b < w0.heap.size; rw [hz]; exact h2 b o ho, h3, h4, hG, h6⟩
 ·rw [ht]
  exact (h.env k v hv).sw hs (hk.imp (fun e => e k v hv) id)
 ·obtain ⟨g1, g2, g3⟩ := h.blk k b hb
  refine ⟨g1, g2, ?_⟩
  split
  ·rename_i hm
   rw [if_pos hm] at g3
   obtain ⟨ks, vs, es, n, q1, q2, q3, q4, q5, q6, q7, q8, q9⟩ := g3
   exact ⟨ks, vs, es, n, q1, hs.maps _ _ _ q2, q3, q4, by show w0.heap.size ≤ _ ∨ _; rw [hz]; exact q5, q6.sw hs (.inr (.inl q8)), q7.sw hs (.inr (.inl q9)), q8, q9⟩
  ·rename_i hm
   rw [if_neg hm] at g3
   rcases g3 with g3 | ⟨cs, e, fr, r1, r2, r3, r4, r5, vs, r6, r7⟩
   ·exact .inl g3
   ·refine .inr ⟨cs, e, fr, hs.cells _ _ _ _ r1, r2, r3, fun x y => by show w0.heap.size ≤ _; rw [hz]; exact r4 x y, fun o o1 o2 => ?_, vs, r6.sw hs (.inl rfl), r7⟩
    obtain ⟨r8, r9⟩ := r5 o o1 o2
    exact ⟨r8, by show w0.heap.size ≤ _ ∨ _; rw [hz]; exact r9⟩
theorem RelM.grow (h : RelM c nt st a w m) {a2 : Act} {w2 : World} (hp : Pres (fun _ _ => False) w w2) (ht : a2.tmps = a.tmps) (hd : Marks c.w0.heap.size w2 a2.defers) : RelM c nt st a2 w2 m := by
 have hl : Later (At st w m) (At st w2 m) := ⟨hp.mono fun _ _ _ x => x.elim, fun _ _ _ x => x, fun k b hb _ => ⟨b, hb, rfl, rfl, rfl, rfl⟩, fun _ x => x, fun _ _ _ x => .inr x, rfl, rfl⟩
 refine ⟨hd, by rw [ht]; exact h.size, h.next1, h.mB, fun k v hk => by rw [ht]; exact (h.env k v hk).move hl (.inl (Nat.le_refl _)), h.pres.trans hp (fun _ _ _ x => x) (fun _ _ _ x => x.elim), fun k b hb => ?_, h.apart⟩
 exact (h.blk k b hb).keep hl rfl rfl rfl (Nat.le_refl _) (fun cs e fr hc => let ⟨c', k1, k2, k3⟩ := hp.cells _ _ _ _ hc; ⟨c', k1, k2, fun o _ _ => k3 o id⟩) fun es n hc _ _ => hp.other _ _ hc (by intros; simp) id
theorem Pres.putNew {A : Nat → Nat → Prop} {w0 w : World} (h : Pres A w0 w) {l : Nat} {o : Obj} (hl : w0.heap.size ≤ l) : Pres A w0 (w.putObj l o) := by
 have key : ∀ {b : Nat} {ob ob' : Obj}, w0.heap[b]? = some ob' → w.heap[b]? = some ob → (w.putObj l o).heap[b]? = some ob := fun {b ob ob'} h0 h1 => by
  have hlt := (Array.getElem?_eq_some_iff.1 h0).1
  rw [World.putObj_heap_other (by omega)]; exact h1
 exact ⟨h.os, h.tape, h.output, by rw [World.putObj_size]; exact h.size, fun b cs e fr hb => let ⟨c', k1, k2⟩ := h.cells b cs e fr hb; ⟨c', key hb k1, k2⟩, fun b ob hb h1 h2 => key hb (h.other b ob hb h1 h2),
  fun b es n hb => let ⟨es', n', k⟩ := h.maps b es n hb; ⟨es', n', key hb k⟩, fun b ob hb h1 h2 => key hb (h.rest b ob hb h1 h2)⟩
theorem Pres.putBoth {A : Nat → Nat → Prop} {w w' : World} (h : Pres A w w') {l : Nat} {r r2 : Loop} (hl : w.heap[l]? = some (.loop r)) : Pres A (w.putObj l (.loop r2)) (w'.putObj l (.loop r2)) := by
 have h0 : l < w.heap.size := (Array.getElem?_eq_some_iff.1 hl).1
 have h1 : w'.heap[l]? = some (.loop r) := h.rest _ _ hl (by intros; simp) (by intros; simp)
 have h2 : l < w'.heap.size := (Array.getElem?_eq_some_iff.1 h1).1
 have back : ∀ {b : Nat} {ob : Obj}, (w.putObj l (.loop r2)).heap[b]? = some ob → (b = l ∧ ob = .loop r2) ∨ (b ≠ l ∧ w.heap[b]? = some ob) := fun {b ob} hb => by
  by_cases e : b = l
  ·subst e; rw [World.putObj_heap_same h0] at hb; cases hb; exact .inl ⟨rfl, rfl⟩
  ·rw [World.putObj_heap_other e] at hb; exact .inr ⟨e, hb⟩
 have forth : ∀ {b : Nat} {ob : Obj}, b ≠ l → w'.heap[b]? = some ob → (w'.putObj l (.loop r2)).heap[b]? = some ob := fun {b ob} e hb => by rw [World.putObj_heap_other e]; exact hb
 refine ⟨h.os, h.tape, h.output, by simp only [World.putObj_size]; exact h.size, fun b cs e fr hb => ?_, fun b ob hb g1 g2 => ?_, fun b es n hb => ?_, fun b ob hb g1 g2 => ?_⟩
 ·rcases back hb with ⟨_, e⟩ | ⟨e, hb⟩
  ·cases e
  ·obtain ⟨c', k1, k2⟩ := h.cells b cs _ fr hb
   exact ⟨c', forth e k1, k2⟩
 ·rcases back hb with ⟨rfl, rfl⟩ | ⟨e, hb⟩
  ·exact World.putObj_heap_same h2
  ·exact forth e (h.other b ob hb g1 g2)
 ·rcases back hb with ⟨_, e⟩ | ⟨e, hb⟩
  ·cases e
  ·obtain ⟨es', n', k⟩ := h.maps b es n hb
   exact ⟨es', n', forth e k⟩
 ·rcases back hb with ⟨rfl, rfl⟩ | ⟨e, hb⟩
  ·exact World.putObj_heap_same h2
  ·exact forth e (h.rest b ob hb g1 g2)
theorem zmb {w : World} {l : Nat} {o o' : Obj} : (w.putObj l o).putObj l o' = w.putObj l o' := by
 simp [World.putObj]
theorem putObj_it {w : World} {l : Nat} {o : Obj} (h : w.heap[l]? = some o) : w.putObj l o = w := by
 have : w.heap.setIfInBounds l o = w.heap := by
  apply Array.ext'
  obtain ⟨h1, h2⟩ := Array.getElem?_eq_some_iff.1 h
  rw [Array.toList_setIfInBounds]
  apply List.ext_getElem?
  intro i
  by_cases e : l = i
  ·subst e
   rw [List.getElem?_set_self (by simpa using h1)]
   simp only [Array.getElem?_toList]
   exact h.symm
  ·rw [List.getElem?_set_ne e]
 simp only [World.putObj, this]
theorem leavesM {fn : Func} {R : Ending → World → Prop} {n : Nat} (fin : ∀ a2 w2, RelM c nt st a2 w2 m → ∃ v, (results fn a2.tmps).run P w2 = .ok v w2 ∧ R (.returned v) w2) :
  ∀ (Ds : List Nat) (w : World) (a1 : Act), a1.tmps = a.tmps → a1.defers = Ds.map (fun D => { target := .collected D, args := #[] }) → Ds.Nodup → (∀ D ∈ Ds, c.w0.heap.size ≤ D ∧ w.heap[D]? = some (.deferred (some []))) → RelM c nt st a1 w m →
   LeavesInM (fenR none) n P fn a.tmps R a1.defers .returning w
 | [], w, a1, ht, hd, _, _, h => by
  have := fin a1 w h
  rw [ht] at this
  rw [hd]
  exact this
 | D :: Ds, w, a1, ht, hd, hn, hD, h => by
  rw [hd]
  obtain ⟨h1, h2⟩ := hD D (by simp)
  obtain ⟨n1, n2⟩ := List.nodup_cons.1 hn
  have hD' : ∀ D' ∈ Ds, c.w0.heap.size ≤ D' ∧ (w.putObj D (.deferred none)).heap[D']? = some (.deferred (some [])) := fun D' hm => by
   obtain ⟨q1, q2⟩ := hD D' (by simp [hm])
   exact ⟨q1, by rw [World.putObj_heap_other (fun e => by subst e; exact n1 hm)]; exact q2⟩
  refine ⟨by simp, .inl ⟨D, _, rfl, run_takeDeferred h2, ?_⟩⟩
  exact leavesM fin Ds _ { a1 with defers := Ds.map (fun D => { target := .collected D, args := #[] }) } ht rfl n2 hD'
   (h.swap (w0 := c.w0) (Sw.putObj h2 (by intros; simp) (by intros; simp)) rfl rfl ⟨Ds, rfl, n2, hD'⟩ (h.pres.putNew h1) h.mB.2.2.2.2.1 (.inr fun b r hb => by
    rw [World.putObj_heap_other (fun e => by subst e; rw [h2] at hb; cases hb)]; exact hb))
theorem zdp {fn : Func} {R : Ending → World → Prop} {n : Nat} (h : RelM c nt st a w m) (fin : ∀ a2 w2, RelM c nt st a2 w2 m → ∃ v, (results fn a2.tmps).run P w2 = .ok v w2 ∧ R (.returned v) w2) :
  LeavesInM (fenR none) n P fn a.tmps R a.defers .returning w :=
 let ⟨Ds, e1, e2, e3⟩ := h.defers
 leavesM fin Ds w a rfl e1 e2 e3 h
end
end Go.Sim
end
section
namespace Go.Sim
open Go
theorem zkx {f : St → Option (Ex × St)} : ∀ {n : Nat} {st : St} {r : Ex × St}, loopF f n st = some r → loopF f (n + 1) st = some r
 | 0, st, r, h => by simp [loopF] at h
 | n + 1, st, r, h => by
  unfold loopF at h ⊢
  cases hf : f st with
  | none => rw [hf] at h; cases h
  | some p =>
   obtain ⟨e, s⟩ := p
   rw [hf] at h
   cases e with
   | normal => exact zkx h
   | exit id => exact h
   | ret => exact h
theorem loopF_le {f : St → Option (Ex × St)} {n n' : Nat} {st : St} {r : Ex × St} (h : loopF f n st = some r) (hn : n ≤ n') : loopF f n' st = some r := by
 induction n' with
 | zero => have : n = 0 := by omega
           subst this; exact h
 | succ k ih =>
  by_cases e : n = k + 1
  ·subst e; exact h
  ·exact zkx (ih (by omega))
theorem zfi {f : St → Option (Ex × St)} {n : Nat} {st : St} {r : Ex × St} (h : loopF f n st = some r) : loopω f st = some r := by
 have hx : ∃ n, (loopF f n st).isSome := ⟨n, by rw [h]; rfl⟩
 unfold loopω
 rw [dif_pos hx]
 obtain ⟨q, hq⟩ := Option.isSome_iff_exists.1 hx.choose_spec
 have h1 := loopF_le h (Nat.le_max_left n hx.choose)
 have h2 := loopF_le hq (Nat.le_max_right n hx.choose)
 rw [h1] at h2
 rw [hq, ← h2]
theorem zgt {f : St → Option (Ex × St)} {st : St} {r : Ex × St} (h : loopω f st = some r) : ∃ n, loopF f n st = some r := by
 unfold loopω at h
 split at h
 ·rename_i hx; exact ⟨_, h⟩
 ·cases h
theorem loopω_eq (f : St → Option (Ex × St)) (st : St) : loopω f st = match f st with | some (.normal, st') => loopω f st' | r => r := by
 cases hl : loopω f st with
 | some r =>
  obtain ⟨n, hn⟩ := zgt hl
  cases n with
  | zero => simp [loopF] at hn
  | succ n =>
   unfold loopF at hn
   cases hf : f st with
   | none => rw [hf] at hn; cases hn
   | some p =>
    obtain ⟨e, s⟩ := p
    rw [hf] at hn
    cases e with
    | normal => exact (zfi hn).symm
    | exit id => exact hn.symm
    | ret => exact hn.symm
 | none =>
  have key : ∀ r, (match f st with | some (.normal, st') => loopω f st' | r => r) ≠ some r := by
   intro r h
   cases hf : f st with
   | none => rw [hf] at h; cases h
   | some p =>
    obtain ⟨e, s⟩ := p
    rw [hf] at h
    cases e with
    | normal =>
     obtain ⟨n, hn⟩ := zgt h
     have : loopF f (n + 1) st = some r := by unfold loopF; rw [hf]; exact hn
     rw [zfi this] at hl; cases hl
    | exit id =>
     have : loopF f 1 st = some r := by unfold loopF; rw [hf]; exact h
     rw [zfi this] at hl; cases hl
    | ret =>
     have : loopF f 1 st = some r := by unfold loopF; rw [hf]; exact h
     rw [zfi this] at hl; cases hl
  cases hm : (match f st with | some (.normal, st') => loopω f st' | r => r) with
  | none => rfl
  | some r => exact (key r hm).elim
section
variable {P : Program} {c : Cx} {nt : Nat} {st : St} {a : Act} {w : World} {m : Mp} {L : Nat → Option TI} {K : Ann} {Γ : Oracle}
theorem zfv (hnt : K.nt ≤ 500000) (hL : LOK P L) (hΓ : OracleOK P Γ) (hG : GlobK P K c) {ops : List Oper} {Q : Exit → Act → World → Prop} {st' : St} (r0 : Option Nat) (n : Nat) : ∀ (l : List Oper) (st : St) (a : Act) (w : World) (m : Mp), RelM c K.nt st a w m → denOps L K Γ ops l st = some st' →
  (∀ a' w' m', RelM c K.nt st' a' w' m' → Q .normal a' w') → wpListIn (fenR r0) n P ops.toArray Q l a w
 | [], st, a, w, m, h, hd, hq => by
  simp only [denOps, qO1] at hd
  subst hd
  exact hq a w m h
 | o :: l, st, a, w, m, h, hd, hq => by
  simp only [denOps] at hd
  cases h1 : denOper L K Γ ops o st with
  | none => rw [h1] at hd; cases hd
  | some st1 =>
   rw [h1] at hd
   simp only [qO2] at hd
   unfold denOper at h1
   split at h1
   ·rename_i hlt
    cases hr : runs ops st o with
    | none => rw [hr] at h1; cases h1
    | some b =>
     have hw := runs_ok h hr
     rw [hr] at h1
     unfold wpListIn
     cases b with
     | true =>
      rw [if_pos hw]
      simp only at h1
      cases hop : denOp L K Γ st (o.dst.getD 0) o.type o.op with
      | none => rw [hop] at h1; cases h1
      | some p =>
       obtain ⟨v, st2⟩ := p
       rw [hop] at h1
       simp only [Option.map_some, qO1] at h1
       subst h1
       refine zet hL hΓ hG h rfl hop (Nat.lt_of_lt_of_le hlt hnt) r0 n _ _ fun y w' m' hR hV => ?_
       exact zfv hnt hL hΓ hG r0 n l _ _ _ m' (hR.put hlt hV) hd hq
     | false =>
      rw [if_neg (by rw [hw]; simp)]
      simp only [qO1] at h1
      subst h1
      exact ⟨fun _ _ => trivial, zfv hnt hL hΓ hG r0 n l _ _ _ m (h.put hlt (.tup (vs := []) (.nil _))) hd hq⟩
   ·cases h1
theorem RelM.sub (h : RelM c nt st a w m) {env : List (Nat × AV)} (he : ∀ k v, aget k env = some v → aget k st.env = some v) : RelM c nt { st with env := env } a w m :=
 ⟨h.defers, h.size, h.next1, h.mB, fun k v hk => h.env k v (he k v hk), h.pres, h.blk, h.apart⟩
theorem tidy_get (cross : List Nat) : ∀ (ops : List Oper) (st : St), (tidy cross ops st).heap = st.heap ∧ (tidy cross ops st).next = st.next ∧ (tidy cross ops st).tag = st.tag ∧ ∀ k v, aget k (tidy cross ops st).env = some v → aget k st.env = some v
 | [], st => ⟨rfl, rfl, rfl, fun _ _ h => h⟩
 | o :: l, st => by
  simp only [tidy]
  have := tidy_get cross l (match o.dst with
   | some d => if cross.contains d then st else { st with env := adel d st.env }
   | none => st)
  obtain ⟨h1, h2, h3, h4⟩ := this
  cases hd : o.dst with
  | none => rw [hd] at h1 h2 h3 h4; exact ⟨h1, h2, h3, h4⟩
  | some d =>
   rw [hd] at h1 h2 h3 h4
   simp only at h1 h2 h3 h4 ⊢
   by_cases hc : cross.contains d = true
   ·rw [if_pos hc] at h1 h2 h3 h4; simp only [hc, if_true]; exact ⟨h1, h2, h3, h4⟩
   ·rw [if_neg hc] at h1 h2 h3 h4
    rw [if_neg hc]
    refine ⟨h1, h2, h3, fun k v hk => ?_⟩
    have := h4 k v hk
    simp only [aget_adel] at this
    split at this
    ·cases this
    ·exact this
theorem RelM.tidy (h : RelM c nt st a w m) (cross : List Nat) (ops : List Oper) : RelM c nt (Sim.tidy cross ops st) a w m := by
 obtain ⟨h1, h2, h3, h4⟩ := tidy_get cross ops st
 have := h.sub h4
 have e : Sim.tidy cross ops st = { st with env := (Sim.tidy cross ops st).env } := by
  cases hx : Sim.tidy cross ops st
  rw [hx] at h1 h2 h3
  simp only at h1 h2 h3
  rw [h1, h2, h3]
 rw [e]; exact this
theorem aget_ins (k : Nat) (p : Nat × Blk) : ∀ l, aget k (insK p l) = aget k (p :: l)
 | [] => rfl
 | q :: l => by
  unfold insK
  cases e : Nat.ble p.1 q.1 with
  | true => rfl
  | false =>
   obtain ⟨a, u⟩ := p
   obtain ⟨b, v⟩ := q
   have hne : ¬ a = b := fun x => by subst x; rw [Nat.ble_eq_true_of_le (Nat.le_refl _)] at e; cases e
   have ih := aget_ins k (a, u) l
   simp only [aget] at ih ⊢
   rw [ih]
   by_cases h1 : a = k
   ·subst h1
    simp [Ne.symm hne]
   ·by_cases h2 : b = k <;> simp [h1, h2]
theorem zo4 (k : Nat) : ∀ l : List (Nat × Blk), aget k (sortK l) = aget k l
 | [] => rfl
 | (a, u) :: l => by
  rw [sortK, aget_ins]
  simp only [aget]
  rw [zo4 k l]
theorem RelM.trim (h : RelM c nt st a w m) (hd : Option (Nat × List Nat × List Nat)) : RelM c nt (Sim.trim hd st) a w m := by
 unfold Sim.trim
 cases hd with
 | none => exact h
 | some p =>
  obtain ⟨r, slots, sites⟩ := p
  simp only
  have hsub : ∀ k b, aget k ((sites.filterMap fun k => (aget k st.heap).map (k, ·)) ++ sortK (st.heap.filter fun p => keepKey sites p.1)) = some b → aget k st.heap = some b := fun k b hk => by
   rw [zc4] at hk
   cases h1 : aget k (sites.filterMap fun k => (aget k st.heap).map (k, ·)) with
   | none => rw [h1, Option.none_or, zo4] at hk; exact zdy k (keepKey sites) st.heap hk
   | some v => rw [h1, Option.some_or] at hk; rw [← hk]; exact znn k sites st.heap h1
  have hl : Later (At st w m) ⟨w, (sites.filterMap fun k => (aget k st.heap).map (k, ·)) ++ sortK (st.heap.filter fun p => keepKey sites p.1), m, st.tag, st.next⟩ := by
   refine ⟨Pres.refl _ _, fun b o _ ho => ?_, fun k b hk _ => ⟨b, hsub k b hk, rfl, rfl, rfl, rfl⟩, fun _ x => x, fun _ _ _ x => .inr x, rfl, rfl⟩
   obtain ⟨k, blk, h1, h2⟩ := ho
   exact ⟨k, blk, hsub k blk h1, h2⟩
  refine ⟨h.defers, h.size, h.next1, h.mB, fun k v hk => (h.env k v (znn k slots st.env hk)).move hl (.inl (Nat.le_refl _)), h.pres, fun k b hk => ?_, fun k j b b' hkj hk hj => h.apart k j b b' hkj (hsub k b hk) (hsub j b' hj)⟩
  exact (h.blk k b (hsub k b hk)).keep hl rfl rfl rfl (Nat.le_refl _) (fun cs e fr hc => ⟨cs, hc, rfl, fun _ _ _ => rfl⟩) fun es n hc _ _ => hc
def Ex.is : Ex → Exit → Prop
 | .normal, .normal => True
 | .exit i, .exit j => i = j
 | .ret, .ret => True
 | _, _ => False
def Ends (c : Cx) (nt : Nat) (e : Ex) (st' : St) : Exit → Act → World → Prop := fun x a' w' => e.is x ∧ ∃ m', RelM c nt st' a' w' m'
theorem zi8 {k : Nat} {v : AV} : ∀ {l : List (Nat × AV)}, l.all (fun p => p.2.calm) = true → aget k l = some v → v.calm = true
 | [], _, h => by cases h
 | (j, u) :: l, hl, h => by
  simp only [List.all_cons, qO5] at hl
  simp only [aget] at h
  split at h
  ·cases h; exact hl.1
  ·exact zi8 hl.2 h
theorem cap_ok {s : S} {c : AV} {x : Value} (h : VR s c x) (hc : c.cap = true) : x.oneCell' = true ∧ c.top = true := by
 cases h <;> first | exact ⟨rfl, rfl⟩ | (simp [AV.cap] at hc; done) | skip
 ·rename_i hv hl
  exact ⟨hv.oneCell, rfl⟩
 ·rename_i h1
  exact ⟨h1, rfl⟩
theorem caps_ok {s : S} {vs : List AV} {xs : List Value} (h : VRs s false vs xs) (hc : vs.all AV.cap = true) : VRs s true vs xs := by
 induction vs generalizing xs with
 | nil => cases h; exact .nil _
 | cons v vs ih =>
  simp only [List.all_cons, qO5] at hc
  cases h with
  | cons h1 hv hs => exact .cons (fun _ => cap_ok hv hc.1) hv (ih hs hc.2)
theorem zlr {g : Operand} {f : Nat} {caps : Array Value} (he : a.eval g = .func (.func f) #[] caps) (l : Nat) : ∃ d, (resolve a.eval (rangeCall g l) 0).run P w = .ok d w ∧
  ∀ w', (invoke d.target d.args).run P w' = (callFunc f (#[.func (.yield l) #[] #[]] ++ caps)).run P w' := by
 refine ⟨{ target := .fn (.func f) caps, args := #[.func (.yield l) #[] #[]] }, ?_, fun w' => ?_⟩
 ·have hk : ∀ v, a.eval (.const v) = v := fun _ => rfl
  simp [resolve, he, Deferred.ofValue, hk]
 ·simp [invoke]
theorem zjz (hΓ : OracleOK P Γ) (hG : GlobP P c.gl) (h : RelM c K.nt st a w m) {g : Operand} {ps : Array Tmp} {assign body : Code} {f : Nat} {caps : List AV} {y : YInfo} (hg : operand st g = .fn f caps)
  (h1 : y.ps = ps.toList ∧ y.assign = assign ∧ y.body = body ∧ y.nt = K.nt) (h2 : (y.slots.map fun k => (aget k st.env).getD .junk).all AV.cap = true) (h3 : st.env.all (fun p => p.2.calm) = true) {d : Nat} {v : AV} {st' : St}
  (hc : hCall none .all Γ st d f (.yld y (y.slots.map fun k => (aget k st.env).getD .junk) :: caps) = some (v, st')) (n : Nat) {Q : Exit → Act → World → Prop} (hq : ∀ a' w' m', RelM c K.nt st' a' w' m' → Q .normal a' w') :
  (Code.rangeFunc g ps assign body).wpIn (fenR none) n P Q a w := by
 refine wpIn_rangeFunc fun fn _ => ?_
 have hgv := za6 h g
 rw [hg] at hgv
 obtain ⟨cvs, he, hcap⟩ := hgv.fn_inv
 obtain ⟨d0, hd1, hd2⟩ := zlr (P := P) (w := (w.alloc (.deferred (some []))).alloc (.loop { state := .ready, pending := none, fn := fn, tmps := a.tmps, params := ps, assign := assign, body := body, defers := w.heap.size })) he (w.heap.size + 1)
 generalize hrec : ({ state := .ready, pending := none, fn := fn, tmps := a.tmps, params := ps, assign := assign, body := body, defers := w.heap.size } : Loop) = rec at hd1
 have hrun : (Instr.enterLoop fn a.tmps ps assign body (fenR none).round).run P w = .ok (w.heap.size + 1, [{ target := .collected w.heap.size, args := #[] }]) ((w.alloc (.deferred (some []))).alloc (.loop rec)) := by
  rw [← hrec]; exact run_enterLoop_outer fn a.tmps ps assign body
 generalize hw1 : (w.alloc (.deferred (some []))).alloc (.loop rec) = w1 at hd1 hrun
 have hp1 : Pres (fun _ _ => False) w w1 := by
  rw [← hw1]
  exact (Pres.alloc _ w _).trans (Pres.alloc (fun _ _ => False) _ _) (fun _ _ _ x => x) (fun _ _ _ x => x)
 have hl1 : w1.heap[w.heap.size + 1]? = some (.loop rec) := by
  rw [← hw1]
  have := zfg (w.alloc (.deferred (some []))) (.loop rec)
  rw [World.size_alloc] at this
  exact this
 have hdef1 : w1.heap[w.heap.size]? = some (.deferred (some [])) := by
  rw [← hw1]
  exact (Pres.alloc (fun _ _ => False) (w.alloc (.deferred (some []))) (.loop rec)).rest _ _ (zfg w _) (by intros; simp) (by intros; simp)
 have hw0 : c.w0.heap.size ≤ w.heap.size := h.pres.size
 have hM : Marks c.w0.heap.size w1 ([{ target := .collected w.heap.size, args := #[] }] ++ a.defers) := by
  obtain ⟨Ds, e1, e2, e3⟩ := h.defers
  refine ⟨w.heap.size :: Ds, by rw [e1]; rfl, List.nodup_cons.2 ⟨fun hm => ?_, e2⟩, fun D hD => ?_⟩
  ·have := (e3 _ hm).2
   rw [Array.getElem?_eq_none (Nat.le_refl _)] at this
   cases this
  ·rcases List.mem_cons.1 hD with rfl | hD
   ·exact ⟨hw0, hdef1⟩
   ·exact ⟨(e3 D hD).1, hp1.rest _ _ (e3 D hD).2 (by intros; simp) (by intros; simp)⟩
 have h1R : RelM c K.nt st { a with defers := [{ target := .collected w.heap.size, args := #[] }] ++ a.defers } w1 m := h.grow hp1 rfl hM
 have hgv1 := za6 h1R g
 rw [hg] at hgv1
 have hcap1 : VRs (At st w1 m) true caps cvs := by
  obtain ⟨cvs', he', hcap'⟩ := hgv1.fn_inv
  have e : a.eval g = ({ a with defers := [{ target := .collected w.heap.size, args := #[] }] ++ a.defers } : Act).eval g := by cases g <;> rfl
  rw [← e, he] at he'
  have : cvs = cvs' := by
   injection he' with _ _ e3
   exact List.toArray_inj e3
  rw [this]; exact hcap'
 have hY : VRs (At st w1 m) false (.yld y (y.slots.map fun k => (aget k st.env).getD .junk) :: caps) (.func (.yield (w.heap.size + 1)) #[] #[] :: cvs) := by
  refine .cons (fun e => by cases e) (.yld hl1 (by rw [← hrec]) (by rw [← hrec]) ?_ ?_) hcap1.weak
  ·rw [← hrec]; exact ⟨h1.1.symm, h1.2.1.symm, h1.2.2.1.symm, by show a.tmps.size = _; rw [h1.2.2.2]; exact h.size⟩
  ·refine caps_ok ?_ h2
   have e : rec.tmps = a.tmps := by rw [← hrec]
   rw [e]
   refine VRs.map _ _ _ (fun k _ => ?_) (fun e => by cases e)
   cases hk : aget k st.env with
   | none => exact .junk _
   | some v => exact h1R.env k v hk
 obtain ⟨pk, lt, r, lent', hg', hpre, back⟩ := zhe h1R hc
 have hinv := hΓ.all _ _ _ _ _ _ (by simpa using hg') w1 _ _ (hpre _ hY) (h1R.gp hG)
 have hyr : ren (.inn st.tag) pk (.yld y (y.slots.map fun k => (aget k st.env).getD .junk)) = .yld y (renL (.inn st.tag) pk (y.slots.map fun k => (aget k st.env).getD .junk)) := by simp only [Sim.ren]
 have hent := hΓ.ent f (st.tag + 1) y (renL (.inn st.tag) pk (y.slots.map fun k => (aget k st.env).getD .junk)) (caps.map (ren (.inn st.tag) pk)) lt r lent' (by simpa [hyr] using hg')
 refine ⟨w.heap.size + 1, [{ target := .collected w.heap.size, args := #[] }], w1, d0, w1, f, #[.func (.yield (w.heap.size + 1)) #[] #[]] ++ cvs.toArray, w1, hrun, hd1, fun _ _ => trivial, ?_, fun e => (by cases e), zdb.2 ?_⟩
 ·rw [hd2]; exact hent _ _
 have harr : (#[.func (.yield (w.heap.size + 1)) #[] #[]] ++ cvs.toArray : Array Value) = (Value.func (.yield (w.heap.size + 1)) #[] #[] :: cvs).toArray := by apply Array.ext'; simp
 rw [harr]
 have hcalls : Calls P f (Value.func (.yield (w.heap.size + 1)) #[] #[] :: cvs).toArray w1 fun e w' => ∃ x, e = .returned x ∧ ∃ m', HPost w1 w' (st.tag + 1) ((AV.yld y (y.slots.map fun k => (aget k st.env).getD .junk) :: caps).map (ren (.inn st.tag) pk)) lt lent' (mpre st w1 m pk lt) m' r x := by
  rcases hinv with ⟨_, k2⟩ | ⟨x, w', k1, _⟩ | ⟨row, k1, _⟩
  ·exact k2
  ·rw [hent] at k1; cases k1
  ·rw [hent] at k1; cases k1
 refine hcalls.mono ?_
 rintro e w3 ⟨x, rfl, m1, hpost⟩
 obtain ⟨m2, hR, _⟩ := back _ _ _ hpost
 have hl3 : w3.heap[w.heap.size + 1]? = some (.loop rec) := hpost.pres.rest _ _ hl1 (by intros; simp) (by intros; simp)
 refine ⟨none, _, by rw [run_endLoop hl3 (by rw [← hrec]; simp)]; rw [← hrec], ?_⟩
 have henv : st'.env = st.env := by
  unfold hCall hCallG at hc
  simp only [qO3, qO6] at hc
  obtain ⟨_, _, hc⟩ := hc
  split at hc
  ·simp only [qO6] at hc
   obtain ⟨_, _, ⟨_, _⟩, _, _, _, hc⟩ := hc
   split at hc
   ·simp only [qO1, qO4] at hc
    rw [← hc.2]
   ·cases hc
  ·cases hc
 refine hq _ _ m2 (hR.swap (w0 := c.w0) (Sw.putObj hl3 (by intros; simp) (by intros; simp)) rfl rfl ?_ (hR.pres.putNew (by omega)) hR.mB.2.2.2.2.1 (.inl fun k v hk => ?_))
 ·obtain ⟨Ds, e1, e2, e3⟩ := hR.defers
  refine ⟨Ds, e1, e2, fun D hD => ⟨(e3 D hD).1, ?_⟩⟩
  rw [World.putObj_heap_other (fun e => by have := (e3 D hD).2; rw [e, hl3] at this; cases this)]
  exact (e3 D hD).2
 ·rw [henv] at hk
  exact zi8 h3 hk
theorem den_wp (hnt : K.nt ≤ 500000) (hm : P.follows .mixedOrders = true) (hL : LOK P L) (hΓ : OracleOK P Γ) (hG : GlobK P K c) (r0 : Option Nat) (n : Nat) : ∀ (code : Code), (r0 = none ∨ noRange code = true) → drawsOk L K code = true → ∀ (st : St) (a : Act) (w : World) (m : Mp) (e : Ex) (st' : St), RelM c K.nt st a w m → den loopω L K Γ code st = some (e, st') →
  code.wpIn (fenR r0) n P (Ends c K.nt e st') a w := by
 intro code
 induction code with
 | skip =>
  intro _ _ st a w m e st' h hd
  simp only [den, qO1, qO4] at hd
  obtain ⟨rfl, rfl⟩ := hd
  exact wpIn_skip ⟨trivial, m, h⟩
 | region id ops draw =>
  intro hno hk st a w m e st' h hd
  simp only [den] at hd
  cases hs : denOps L K Γ ops.toList ops.toList st with
  | none => rw [hs] at hd; cases hd
  | some st1 =>
   rw [hs] at hd
   simp only [Option.map_some, qO1, qO4] at hd
   obtain ⟨rfl, rfl⟩ := hd
   cases draw with
   | false =>
    refine wpIn_region_list ?_
    have := zfv (P := P) (c := c) (Q := Ends c K.nt .normal (Sim.tidy K.cross ops.toList st1)) hnt hL hΓ hG r0 n ops.toList st a w m h hs (fun a' w' m' hR => ⟨trivial, m', hR.tidy _ _⟩)
    simpa using this
   | true =>
    simp only [drawsOk, Bool.not_true, Bool.false_or] at hk
    have := region_any (Q := Ends c K.nt .normal (Sim.tidy K.cross ops.toList st1)) (id := id) (ops := ops.toList) hnt hm hL hΓ hG (by simpa using hk) h hs (fun a' w' m' hR => ⟨trivial, m', hR.tidy _ _⟩) r0 n
    simpa using this
 | seq x y ihx ihy =>
  intro hno hk st a w m e st' h hd
  simp only [drawsOk, qO5] at hk
  have hno' : (r0 = none ∨ noRange x = true) ∧ (r0 = none ∨ noRange y = true) := by
   rcases hno with e | e
   ·exact ⟨.inl e, .inl e⟩
   ·simp only [noRange, qO5] at e; exact ⟨.inr e.1, .inr e.2⟩
  have ihx := ihx hno'.1 hk.1
  have ihy := ihy hno'.2 hk.2
  simp only [den] at hd
  cases hx : den loopω L K Γ x st with
  | none => rw [hx] at hd; cases hd
  | some p =>
   obtain ⟨e1, st1⟩ := p
   rw [hx] at hd
   refine wpIn_seq (Go.wpIn_mono (ihx st a w m e1 st1 h hx) ?_)
   rintro ex a' w' ⟨he, m', hR⟩
   cases e1 with
   | normal =>
    cases ex <;> simp only [Ex.is] at he
    exact ihy st1 a' w' m' e st' hR hd
   | exit i =>
    simp only [qO1, qO4] at hd
    obtain ⟨rfl, rfl⟩ := hd
    cases ex <;> simp only [Ex.is] at he
    subst he
    exact ⟨rfl, m', hR⟩
   | ret =>
    simp only [qO1, qO4] at hd
    obtain ⟨rfl, rfl⟩ := hd
    cases ex <;> simp only [Ex.is] at he
    exact ⟨trivial, m', hR⟩
 | cond x y z ihy ihz =>
  intro hno hk st a w m e st' h hd
  simp only [drawsOk, qO5] at hk
  have hno' : (r0 = none ∨ noRange y = true) ∧ (r0 = none ∨ noRange z = true) := by
   rcases hno with e | e
   ·exact ⟨.inl e, .inl e⟩
   ·simp only [noRange, qO5] at e; exact ⟨.inr e.1, .inr e.2⟩
  have ihy := ihy hno'.1 hk.1
  have ihz := ihz hno'.2 hk.2
  simp only [den] at hd
  have hx := za6 h x
  split at hd
  ·rename_i b hb
   rw [hb] at hx
   refine wpIn_cond hx.bool_inv ?_
   cases b with
   | true => simp only [if_true] at hd ⊢; exact ihy st a w m e st' h hd
   | false => simp only [if_false, Bool.false_eq_true] at hd ⊢; exact ihz st a w m e st' h hd
  ·cases hd
 | block id x ih =>
  intro hno hk st a w m e st' h hd
  have ih := ih (hno.imp (fun e => e) fun e => by simpa only [noRange] using e) hk
  simp only [den] at hd
  cases hx : den loopω L K Γ x st with
  | none => rw [hx] at hd; cases hd
  | some p =>
   obtain ⟨e1, st1⟩ := p
   rw [hx] at hd
   refine wpIn_block (Go.wpIn_mono (ih st a w m e1 st1 h hx) ?_)
   rintro ex a' w' ⟨he, m', hR⟩
   cases e1 with
   | normal =>
    simp only [qO1, qO4] at hd
    obtain ⟨rfl, rfl⟩ := hd
    cases ex <;> simp only [Ex.is] at he
    exact ⟨trivial, m', hR⟩
   | exit i =>
    cases ex <;> simp only [Ex.is] at he
    subst he
    simp only at hd
    simp only [Exit.inBlock]
    by_cases hi : i = id
    ·rw [if_pos hi] at hd ⊢
     simp only [qO1, qO4] at hd
     obtain ⟨rfl, rfl⟩ := hd
     exact ⟨trivial, m', hR⟩
    ·rw [if_neg hi] at hd ⊢
     simp only [qO1, qO4] at hd
     obtain ⟨rfl, rfl⟩ := hd
     exact ⟨rfl, m', hR⟩
   | ret =>
    simp only [qO1, qO4] at hd
    obtain ⟨rfl, rfl⟩ := hd
    cases ex <;> simp only [Ex.is] at he
    exact ⟨trivial, m', hR⟩
 | loop x ih =>
  intro hno hk st a w m e st' h hd
  have ih := ih (hno.imp (fun e => e) fun e => by simpa only [noRange] using e) hk
  simp only [den] at hd
  obtain ⟨n, hn⟩ := zgt hd
  refine wpIn_loop_rounds n ?_
  clear hd
  induction n generalizing st a w m with
  | zero => simp [loopF] at hn
  | succ n ihn =>
   rw [roundsIn_succ]
   unfold loopF at hn
   cases hx : den loopω L K Γ x (Sim.trim (K.heads.find? (·.1 == firstRegion x)) st) with
   | none => rw [hx] at hn; cases hn
   | some p =>
    obtain ⟨e1, st1⟩ := p
    rw [hx] at hn
    refine Go.wpIn_mono (ih _ a w m e1 st1 (h.trim _) hx) ?_
    rintro ex a' w' ⟨he, m', hR⟩
    cases e1 with
    | normal =>
     cases ex <;> simp only [Ex.is] at he
     exact ihn st1 a' w' m' hR hn
    | exit i =>
     simp only [qO1, qO4] at hn
     obtain ⟨rfl, rfl⟩ := hn
     cases ex <;> simp only [Ex.is] at he
     subst he
     exact ⟨rfl, m', hR⟩
    | ret =>
     simp only [qO1, qO4] at hn
     obtain ⟨rfl, rfl⟩ := hn
     cases ex <;> simp only [Ex.is] at he
     exact ⟨trivial, m', hR⟩
 | exit id =>
  intro _ _ st a w m e st' h hd
  simp only [den, qO1, qO4] at hd
  obtain ⟨rfl, rfl⟩ := hd
  exact wpIn_exit ⟨rfl, m, h⟩
 | rangeFunc g ps assign body =>
  intro hno _ st a w m e st' h hd
  have hno : r0 = none := hno.elim (fun e => e) fun e => by simp [noRange] at e
  subst hno
  simp only [den] at hd
  split at hd
  ·rename_i f caps y hg hy
   split at hd
   ·rename_i hcnd
    simp only [qO6, qO1, qO4] at hd
    obtain ⟨⟨v, st2⟩, hc, rfl, rfl⟩ := hd
    exact zjz hΓ hG.gp h hg hcnd.1 hcnd.2.1 hcnd.2.2 hc n fun a' w' m' hR => ⟨trivial, m', hR⟩
   ·cases hd
  ·cases hd
 | ret =>
  intro _ _ st a w m e st' h hd
  simp only [den, qO1, qO4] at hd
  obtain ⟨rfl, rfl⟩ := hd
  exact wpIn_ret ⟨trivial, m, h⟩
 | _ =>
  intro _ _ st a w m e st' h hd
  simp [den] at hd
end
end Go.Sim
end
section
namespace Go.Sim
open Go
section
variable {P : Program} {c : Cx} {nt : Nat} {st : St} {a : Act} {w : World} {m : Mp} {L : Nat → Option TI} {K : Ann} {Γ : Oracle}
def For (st : St) (w : World) (m : Mp) (s : Nat) (r : Reg) : Prop :=
 (∃ blk, aget s st.heap = some blk ∧ r.1 = (m.base s).1 ∧ (m.base s).2 ≤ r.2.1 ∧ r.2.1 + r.2.2 ≤ (m.base s).2 + m.ext s) ∨ (s = passed ∧ ∀ b o, InR r b o → ¬ Own (At st w m) b o)
theorem For.own {s : Nat} {r : Reg} {blk : Blk} (hb : aget s st.heap = some blk) (h1 : r.1 = (m.base s).1) (h2 : (m.base s).2 ≤ r.2.1) (h3 : r.2.1 + r.2.2 ≤ (m.base s).2 + m.ext s) {b o : Nat} (h : InR r b o) : Own (At st w m) b o :=
 ⟨s, blk, hb, by rw [← h.1]; exact h1.symm, by have := h.2.1; simp only []; omega, by have := h.2.2; simp only []; omega⟩
theorem For.apart (h : RelM c nt st a w m) {s s' : Nat} {r r' : Reg} (h1 : For st w m s r) (h2 : For st w m s' r') (hne : s ≠ s') : ∀ b o, ¬ (InR r b o ∧ InR r' b o) := by
 rintro b o ⟨i1, i2⟩
 rcases h1 with ⟨blk, a1, a2, a3, a4⟩ | ⟨rfl, a1⟩
 ·rcases h2 with ⟨blk', b1, b2, b3, b4⟩ | ⟨rfl, b1⟩
  ·have := i1.1; have := i2.1; have := i1.2; have := i2.2
   exact h.apart s s' blk blk' hne a1 b1 (by omega) o ⟨by omega, by omega, by omega, by omega⟩
  ·exact b1 b o i2 (For.own a1 a2 a3 a4 i1)
 ·rcases h2 with ⟨blk', b1, b2, b3, b4⟩ | ⟨rfl, b1⟩
  ·exact a1 b o i1 (For.own b1 b2 b3 b4 i2)
  ·exact hne rfl
theorem Apart.append {rs rs' : List Reg} (h1 : Apart rs) (h2 : Apart rs') (h : ∀ r ∈ rs, ∀ r' ∈ rs', ∀ b o, ¬ (InR r b o ∧ InR r' b o)) : Apart (rs ++ rs') :=
 List.pairwise_append.2 ⟨h1, h2, h⟩
theorem ziy (h : RelM c nt st a w m) {v : AV} {x : Value} (hv : VR (At st w m) v x) {z n : Nat} {cells : List AV} {s : Nat} (hf : freezeSl c.np st v = some (z, n, cells, s)) :
  (∃ cap b o vs cs e fr, x = .slice (some ⟨b, o, none⟩) n cap ∧ RowAt w c.w0.heap.size z n cap b o cells vs cs e fr ∧ For st w m s (b, o, cap * z)) ∨ (∃ ad, x = .slice ad 0 0 ∧ n = 0 ∧ cells = []) := by
 unfold freezeSl at hf
 split at hf
 ·rename_i s' g z' o n'
  cases hb : blkOf st s' g with
  | none => simp [hb] at hf
  | some cs =>
   simp only [hb, qO3, qO2] at hf
   split at hf
   ·rename_i hcnd
    obtain ⟨c1, c0, c2, c3, c4, c5⟩ := hcnd
    simp only [qO1, qO4] at hf
    obtain ⟨rfl, rfl, rfl, rfl⟩ := hf
    subst c2
    obtain ⟨blk, b1, b2, rfl⟩ := zap hb
    rcases (hv.msl_inv b1 b2).2 with ⟨cap, e1, hc, hx⟩ | ⟨e0, ad, e1⟩
    ·replace hx : 0 + cap * z' ≤ m.ext s' := hx
     rcases h.blkAt b1 with ⟨q1, q2⟩ | ⟨cs, e, fr, r1, r2, r3, r4, r5, vs, r6, r7⟩
     ·have hz : cap = 0 := by
       rcases Nat.mul_eq_zero.1 (show cap * z' = 0 by omega) with y | y
       ·exact y
       ·omega
      subst hz
      have : n' = 0 := by omega
      subst this
      exact .inr ⟨_, e1, rfl, q1⟩
     ·refine .inl ⟨cap, _, _, vs, cs, e, fr, e1, ⟨r4 c1 c0, r1, by show (m.base s').2 + 0 + cap * z' ≤ _; omega, hc, c4, r6.pvs c5, fun j v hj => by simpa using r7 j v hj, fun k k1 k2 => (r5 k (by simpa using k1) (by
       have : k < (m.base s').2 + 0 + cap * z' := k2
       omega)).1⟩, .inl ⟨blk, b1, rfl, by simp, by show (m.base s').2 + 0 + cap * z' ≤ _; omega⟩⟩
    ·refine .inr ⟨ad, by rw [e1], e0, List.eq_nil_of_length_eq_zero (by rw [c4, e0]; simp)⟩
   ·cases hf
 ·cases hf
theorem RCs.plain {w : World} {B : Nat} {cs : List AV} {vs : List Value} (h : PVs cs vs) : RCs w B cs vs [] := by
 induction cs generalizing vs with
 | nil => cases h; exact .nil
 | cons c cs ih => cases h with | cons hv hs => exact .cons (r := []) (rs := []) (.plain hv) (ih hs)
theorem RCs.append {w : World} {B : Nat} {cs ds : List AV} {vs us : List Value} {rs ss : List Reg} (h : RCs w B cs vs rs) (k : RCs w B ds us ss) : RCs w B (cs ++ ds) (vs ++ us) (rs ++ ss) := by
 induction h with
 | nil => simpa using k
 | cons h hs ih => rw [List.append_assoc]; exact .cons h ih
theorem zhw {np : Nat} {st : St} {p k : Nat} {ps : List Nat} {cs : List AV} {v : AV} (hc : cs[p - k]? = some v) (hn : v ≠ .nsl) : freezeAgg np st (p :: ps) k cs = (do
   let (z, n, cells, s) ← freezeSl np st v
   let (r, ss) ← freezeAgg np st ps (p + 1) (cs.drop (p - k + 1))
   if (cs.take (p - k)).all AV.plain ∧ !ss.contains s then some (cs.take (p - k) ++ .isl z n cells :: r, s :: ss) else none) := by
 simp only [freezeAgg, hc, qO3, qO2]
theorem zgs {np : Nat} {st : St} {p k : Nat} {ps : List Nat} {cs : List AV} (hc : cs[p - k]? = some .nsl) : freezeAgg np st (p :: ps) k cs = (do
   let (r, ss) ← freezeAgg np st ps (p + 1) (cs.drop (p - k + 1))
   if (cs.take (p - k)).all AV.plain then some (cs.take (p - k) ++ .nsl :: r, ss) else none) := by
 simp only [freezeAgg, hc, qO3, qO2]
theorem zex (h : RelM c nt st a w m) : ∀ (ps : List Nat) (k : Nat) (cs : List AV) (vs : List Value) (out : List AV) (ss : List Nat), VRs (At st w m) true cs vs → freezeAgg c.np st ps k cs = some (out, ss) →
  ∃ rs, RCs w c.w0.heap.size out vs rs ∧ Apart rs ∧ ∀ r ∈ rs, ∃ s ∈ ss, For st w m s r
 | [], k, cs, vs, out, ss, hv, hf => by
  simp only [freezeAgg] at hf
  split at hf
  ·rename_i hp
   simp only [qO1, qO4] at hf
   obtain ⟨rfl, rfl⟩ := hf
   exact ⟨[], RCs.plain (hv.pvs hp), .nil, by simp⟩
  ·cases hf
 | p :: ps, k, cs, vs, out, ss, hv, hf => by
  cases hc : cs[p - k]? with
  | none => simp [freezeAgg, hc] at hf
  | some v =>
   by_cases hnsl : v = .nsl
   ·subst hnsl
    rw [zgs hc] at hf
    cases hr : freezeAgg c.np st ps (p + 1) (cs.drop (p - k + 1)) with
    | none => simp [hr] at hf
    | some q2 =>
     obtain ⟨r, ss'⟩ := q2
     simp only [hr, qO3, qO2] at hf
     split at hf
     ·rename_i hcnd
      simp only [qO1, qO4] at hf
      obtain ⟨rfl, rfl⟩ := hf
      obtain ⟨x, hx1, hx2, _⟩ := hv.get hc
      obtain ⟨rs, g1, g2, g3⟩ := zex h ps (p + 1) _ (vs.drop (p - k + 1)) r ss' (hv.drop _) hr
      have hsplit : vs = vs.take (p - k) ++ x :: vs.drop (p - k + 1) := by
       have hlt : p - k < vs.length := (List.getElem?_eq_some_iff.1 hx1).1
       have hx : vs[p - k] = x := (List.getElem?_eq_some_iff.1 hx1).2
       rw [← hx, ← List.drop_eq_getElem_cons hlt, List.take_append_drop]
      have hpre : RCs w c.w0.heap.size (cs.take (p - k)) (vs.take (p - k)) [] := RCs.plain ((hv.take _).pvs hcnd)
      rw [hsplit]
      exact ⟨[] ++ ([] ++ rs), hpre.append (.cons (.plain (hx2.pv rfl)) g1), by simpa using g2, fun r' hr' => g3 r' (by simpa using hr')⟩
     ·cases hf
   rw [zhw hc hnsl] at hf
   cases hs : freezeSl c.np st v with
   | none => simp [hs] at hf
   | some q =>
    obtain ⟨z, n, cells, s⟩ := q
    cases hr : freezeAgg c.np st ps (p + 1) (cs.drop (p - k + 1)) with
    | none => simp [hs, hr] at hf
    | some q2 =>
     obtain ⟨r, ss'⟩ := q2
     simp only [hs, hr, qO3, qO2] at hf
     split at hf
     ·rename_i hcnd
      simp only [qO1, qO4] at hf
      obtain ⟨rfl, rfl⟩ := hf
      obtain ⟨x, hx1, hx2, _⟩ := hv.get hc
      obtain ⟨rs, g1, g2, g3⟩ := zex h ps (p + 1) _ (vs.drop (p - k + 1)) r ss' (hv.drop _) hr
      have hsplit : vs = vs.take (p - k) ++ x :: vs.drop (p - k + 1) := by
       have hlt : p - k < vs.length := (List.getElem?_eq_some_iff.1 hx1).1
       have hx : vs[p - k] = x := (List.getElem?_eq_some_iff.1 hx1).2
       rw [← hx, ← List.drop_eq_getElem_cons hlt, List.take_append_drop]
      have hpre : RCs w c.w0.heap.size (cs.take (p - k)) (vs.take (p - k)) [] := RCs.plain ((hv.take _).pvs hcnd.1)
      rw [hsplit]
      rcases ziy h hx2 hs with ⟨cap, b, o, vs', cs', e, fr, rfl, hrow, hfor⟩ | ⟨ad, rfl, rfl, rfl⟩
      ·refine ⟨[] ++ ([(b, o, cap * z)] ++ rs), hpre.append (.cons (.isl hrow) g1), ?_, ?_⟩
       ·simp only [List.nil_append, List.singleton_append]
        refine List.pairwise_cons.2 ⟨fun r' hr' => ?_, g2⟩
        obtain ⟨s', hs', hfor'⟩ := g3 r' hr'
        refine hfor.apart h hfor' fun e => ?_
        subst e
        have := hcnd.2
        simp [hs'] at this
       ·intro r' hr'
        simp only [List.nil_append, List.singleton_append, List.mem_cons] at hr'
        rcases hr' with rfl | hr'
        ·exact ⟨s, by simp, hfor⟩
        ·obtain ⟨s', hs', hfor'⟩ := g3 r' hr'
         exact ⟨s', by simp [hs'], hfor'⟩
      ·refine ⟨[] ++ ([] ++ rs), hpre.append (.cons .islnil g1), by simpa using g2, fun r' hr' => ?_⟩
       obtain ⟨s', hs', hfor'⟩ := g3 r' (by simpa using hr')
       exact ⟨s', by simp [hs'], hfor'⟩
     ·cases hf
theorem znw (h : RelM c nt st a w m) (ps : List Nat) {v out : AV} {x : Value} {ss : List Nat} (hv : VR (At st w m) v x) (hf : freezeOne c.np ps st v = some (out, ss)) :
  ∃ rs, Res1 w c.w0.heap.size c.gl out x rs ∧ Apart rs ∧ ∀ r ∈ rs, ∃ s ∈ ss, For st w m s r := by
 unfold freezeOne at hf
 split at hf
 ·rename_i cs
  obtain ⟨vs, rfl, hvs⟩ := hv.agg_inv
  cases hr : freezeAgg c.np st ps 0 cs with
  | none => simp [hr] at hf
  | some q =>
   obtain ⟨r, ss'⟩ := q
   simp only [hr, Option.map_some, qO1, qO4] at hf
   obtain ⟨rfl, rfl⟩ := hf
   obtain ⟨rs, g1, g2, g3⟩ := zex h ps 0 cs vs r ss' hvs hr
   exact ⟨rs, .agg g1, g2, g3⟩
 ·rename_i s g z o n
  cases hr : freezeSl c.np st (.msl s g z o n) with
  | none => simp [hr] at hf
  | some q =>
   obtain ⟨z', n', cells, s'⟩ := q
   simp only [hr, Option.map_some, qO1, qO4] at hf
   obtain ⟨rfl, rfl⟩ := hf
   rcases ziy h hv hr with ⟨cap, b, o, vs', cs', e, fr, rfl, hrow, hfor⟩ | ⟨ad, rfl, rfl, rfl⟩
   ·exact ⟨_, .fsl hrow, List.pairwise_singleton _ _, fun r hr' => ⟨s', by simp, by simp at hr'; rw [hr']; exact hfor⟩⟩
   ·exact ⟨[], .fslnil, .nil, by simp⟩
 ·rename_i z n cells
  simp only [qO1, qO4] at hf
  obtain ⟨rfl, rfl⟩ := hf
  cases hv with
  | fslnil => exact ⟨[], .fslnil, .nil, by simp⟩
  | fsl hB hb hsz hcap hlen hpv hc hfz =>
   rename_i cap b o vs cs e fr
   have hB' : c.w0.heap.size ≤ b := by have := h.mB.1; simp only at hB; omega
   exact ⟨_, .fsl ⟨hB', hb, hsz, hcap, hlen, hpv, hc, fun k k1 k2 => (hfz k k1 k2).1⟩, List.pairwise_singleton _ _, fun r hr' => ⟨passed, by simp, by
    simp at hr'; rw [hr']
    exact .inr ⟨rfl, fun b' o' hin => by
     obtain ⟨i1, i2, i3⟩ := hin
     simp only at i1 i2 i3
     rw [← i1]; exact fun ho => (hfz o' i2 i3).2 (.inl ho)⟩⟩⟩
 ·simp only [qO1, qO4] at hf
  obtain ⟨rfl, rfl⟩ := hf
  cases hv with
  | err he => exact ⟨[], .err (by rw [← h.mB.2.2.2.1]; exact he), .nil, by simp⟩
 ·split at hf
  ·rename_i hp
   simp only [qO1, qO4] at hf
   obtain ⟨rfl, rfl⟩ := hf
   exact ⟨[], .plain (hv.pv hp), .nil, by simp⟩
  ·cases hf
theorem zep (h : RelM c nt st a w m) (ps : List Nat) : ∀ (vs : List AV) (xs : List Value) (out : List AV) (ss : List Nat), VRs (At st w m) false vs xs → freezeAll c.np ps st vs = some (out, ss) →
  ∃ rs, Res1s w c.w0.heap.size c.gl out xs rs ∧ Apart rs ∧ ∀ r ∈ rs, ∃ s ∈ ss, For st w m s r
 | [], xs, out, ss, hv, hf => by
  cases hv
  simp only [freezeAll, qO1, qO4] at hf
  obtain ⟨rfl, rfl⟩ := hf
  exact ⟨[], .nil, .nil, by simp⟩
 | v :: vs, _, out, ss, .cons h1 hv hs, hf => by
  simp only [freezeAll] at hf
  cases h1 : freezeOne c.np ps st v with
  | none => simp [h1] at hf
  | some p =>
   obtain ⟨x, s1⟩ := p
   cases h2 : freezeAll c.np ps st vs with
   | none => simp [h1, h2] at hf
   | some q =>
    obtain ⟨xs', s2⟩ := q
    simp only [h1, h2, qO3, qO2] at hf
    split at hf
    ·rename_i hd
     simp only [qO1, qO4] at hf
     obtain ⟨rfl, rfl⟩ := hf
     obtain ⟨r1, g1, g2, g3⟩ := znw h ps hv h1
     obtain ⟨r2, k1, k2, k3⟩ := zep h ps vs _ xs' s2 hs h2
     refine ⟨r1 ++ r2, .cons g1 k1, g2.append k2 fun r hr r' hr' => ?_, fun r hr => ?_⟩
     ·obtain ⟨s, hs, hfor⟩ := g3 r hr
      obtain ⟨s', hs', hfor'⟩ := k3 r' hr'
      refine hfor.apart h hfor' fun e => ?_
      subst e
      have := List.all_eq_true.1 hd s hs
      simp [hs'] at this
     ·rcases List.mem_append.1 hr with y | y
      ·obtain ⟨s, hs, hfor⟩ := g3 r y; exact ⟨s, by simp [hs], hfor⟩
      ·obtain ⟨s, hs, hfor⟩ := k3 r y; exact ⟨s, by simp [hs], hfor⟩
    ·cases hf
theorem zec (k : Nat) : ∀ (j : Nat) (args : List AV), aget k (argEnv j args) = if j ≤ k then args[k - j]? else none
 | j, [] => by simp [argEnv, aget]
 | j, v :: l => by
  simp only [argEnv, aget, zec k (j + 1) l]
  by_cases e : j = k
  ·subst e; simp
  ·rw [if_neg e]
   by_cases h : j + 1 ≤ k
   ·rw [if_pos h, if_pos (by omega), show k - j = (k - (j + 1)) + 1 from by omega]; simp
   ·rw [if_neg h, if_neg (by omega)]
theorem zfc : ∀ (j : Nat) (lent out : List (Option (List AV))), lentOut st j lent = some out →
  out.length = lent.length ∧ (∀ k : Nat, lent[k]? = some none → out[k]? = some none) ∧
  ∀ (k : Nat) (old : List AV), lent[k]? = some (some old) → ∃ new, out[k]? = some (some new) ∧ blkOf st (j + k) (st.tag, 0) = some new ∧ new.length = old.length ∧ new.all AV.plain = true
 | j, [], out, h => by
  simp only [lentOut, qO1] at h
  subst h
  exact ⟨rfl, by simp, by simp⟩
 | j, none :: l, out, h => by
  simp only [lentOut] at h
  cases hr : lentOut st (j + 1) l with
  | none => simp [hr] at h
  | some r =>
   simp only [hr, Option.map_some, qO1] at h
   subst h
   obtain ⟨h1, h2, h3⟩ := zfc (j + 1) l r hr
   refine ⟨by simp [h1], fun k hk => ?_, fun k old hk => ?_⟩
   ·cases k with
    | zero => rfl
    | succ k => simpa using h2 k (by simpa using hk)
   ·cases k with
    | zero => simp at hk
    | succ k =>
     obtain ⟨new, g1, g2, g3⟩ := h3 k old (by simpa using hk)
     exact ⟨new, by simpa using g1, by rw [← g2]; congr 1; omega, g3⟩
 | j, some old :: l, out, h => by
  simp only [lentOut] at h
  cases hb : blkOf st j (st.tag, 0) with
  | none => simp [hb] at h
  | some cells =>
   cases hr : lentOut st (j + 1) l with
   | none => simp [hb, hr] at h
   | some r =>
    simp only [hb, hr, qO3, qO2] at h
    split at h
    ·rename_i hcnd
     simp only [qO1] at h
     subst h
     obtain ⟨h1, h2, h3⟩ := zfc (j + 1) l r hr
     refine ⟨by simp [h1], fun k hk => ?_, fun k old' hk => ?_⟩
     ·cases k with
      | zero => simp at hk
      | succ k => simpa using h2 k (by simpa using hk)
     ·cases k with
      | zero => simp at hk; subst hk; exact ⟨cells, rfl, by simpa using hb, hcnd.1, hcnd.2⟩
      | succ k =>
       obtain ⟨new, g1, g2, g3⟩ := h3 k old' (by simpa using hk)
       exact ⟨new, by simpa using g1, by rw [← g2]; congr 1; omega, g3⟩
    ·cases h
theorem ok_loadVar (h : RelM c nt st a w m) {t : Nat} {i : TI} (hi : TIOK P t i) {av v : AV} {x : Value} (hx : VR (At st w m) av x) (hl : aLoad i st av = some v) :
  ∃ y, ((do loadVar t (← asAddr x)) : Sem Value).run P w = .ok y w ∧ VR (At st w m) v y := by
 unfold aLoad at hl
 split at hl
 ·rename_i k σ o
  cases hb : blkOf st k σ with
  | none => simp [hb] at hl
  | some cells =>
   simp only [hb, qO2] at hl
   obtain ⟨blk, h1, h2, rfl⟩ := zap hb
   obtain ⟨vs, g1, g2⟩ := h.reads h1
   have hx' := hx.ref_inv h1 h2
   subst hx'
   obtain ⟨y, k1, k2⟩ := run_rd hi g1 hl (m.base k).1 (m.base k).2 w g2
   exact ⟨y, by simpa [asAddr] using k1, k2⟩
 ·rename_i cells
  obtain ⟨b, vs, rfl, hr, hv⟩ := hx.ipt_inv
  obtain ⟨y, k1, k2⟩ := run_rd hi hv hl b.block b.off w (fun j u hj => (hr j u hj).1)
  exact ⟨y, by simpa [asAddr] using k1, k2⟩
 ·cases hl
theorem zg4 (hL : LOK P L) (h : RelM c nt st a w m) : ∀ (ks : List ResultVar) (gs : List AV), getAll L st ks = some gs → ∃ xs, VRs (At st w m) false gs xs ∧
  ∀ (g : ResultVar → Sem Value), (∀ t, (g (.tmp t)).run P w = .ok (a.tmps.getD t undef) w) → (∀ k t, (g (.cell k t)).run P w = ((do loadVar t (← asAddr (a.tmps.getD k undef))) : Sem Value).run P w) → (ks.mapM g).run P w = .ok xs w
 | [], gs, hg => by
  simp only [getAll, qO1] at hg
  subst hg
  exact ⟨[], .nil _, fun g _ _ => by simp⟩
 | k :: ks, gs, hg => by
  simp only [getAll] at hg
  cases hr : getRes L st k with
  | none => simp [hr] at hg
  | some v =>
   cases hs : getAll L st ks with
   | none => simp [hr, hs] at hg
   | some vs =>
    simp only [hr, hs, qO2, Option.map_some, qO1] at hg
    subst hg
    obtain ⟨xs, i1, i2⟩ := zg4 hL h ks vs hs
    have hget : ∀ t, VR (At st w m) ((aget t st.env).getD .junk) (a.tmps.getD t undef) := fun t => by
     cases hk : aget t st.env with
     | none => exact .junk _
     | some v => exact h.env t v hk
    have : ∃ x, VR (At st w m) v x ∧ ∀ (g : ResultVar → Sem Value), (∀ t, (g (.tmp t)).run P w = .ok (a.tmps.getD t undef) w) → (∀ k t, (g (.cell k t)).run P w = ((do loadVar t (← asAddr (a.tmps.getD k undef))) : Sem Value).run P w) → (g k).run P w = .ok x w := by
     cases k with
     | tmp t =>
      simp only [getRes, qO1] at hr
      subst hr
      exact ⟨_, hget t, fun g h1 _ => h1 t⟩
     | cell t ty =>
      simp only [getRes] at hr
      cases hl : L ty with
      | none => simp [hl] at hr
      | some i =>
       simp only [hl, qO2] at hr
       obtain ⟨y, k1, k2⟩ := ok_loadVar h (hL ty i hl) (hget t) hr
       exact ⟨y, k2, fun g _ h2 => by rw [h2]; exact k1⟩
    obtain ⟨x, j1, j2⟩ := this
    refine ⟨x :: xs, .cons (fun e => by cases e) j1 i1, fun g h1 h2 => ?_⟩
    simp only [List.mapM_cons, Sem.run_bind, Sem.run_pure, Result.andThen_ok, j2 g h1 h2, i2 g h1 h2]
structure FnOK (P : Program) (L : Nat → Option TI) (f : Nat) (a : AFn) : Prop where
 draws : drawsOk L a.ann a.body = true
 fn : ∃ fn : Func, P.funcs[f]? = some fn ∧ fn.body = some a.body ∧ fn.ntmps = a.ann.nt ∧ fn.results = a.results.toArray
 enter : ∀ args w, (callFunc f args).run P w = .ok (.enter f args) w
 le : a.np ≤ a.ann.nt
 few : a.ann.nt ≤ 500000
 rd : ∀ g, (aget (1000000000 + g) a.ann.reads).isSome = true → errG P g = true
def resV : List Value → Value
 | [x] => x
 | xs => .tuple xs.toArray
theorem zfq {fn : Func} {ks : List ResultVar} (h : fn.results = ks.toArray) {tmps : Array Value} {w : World} {xs : List Value}
  (hx : ∀ (g : ResultVar → Sem Value), (∀ t, (g (.tmp t)).run P w = .ok (tmps.getD t undef) w) → (∀ k t, (g (.cell k t)).run P w = ((do loadVar t (← asAddr (tmps.getD k undef))) : Sem Value).run P w) → (ks.mapM g).run P w = .ok xs w) :
  (results fn tmps).run P w = .ok (resV xs) w := by
 unfold results
 rw [Sem.run_bind, h, Array.mapM_eq_mapM_toList]
 simp only [Sem.run_map]
 rw [hx _ (fun t => rfl) (fun k t => rfl)]
 simp only [Sem.run_pure]
 match xs with
 | [] => rfl
 | [k] => rfl
 | _ :: _ :: _ => rfl
theorem runFn_ok (hm : P.follows .mixedOrders = true) (hL : LOK P L) (hΓ : OracleOK P Γ) {f : Nat} {fa : AFn} (hf : FnOK P L f fa) {tag : Nat} {args : List AV} {lent lent' : List (Option (List AV))} {r : AV}
  (hr : runFn loopω L fa Γ tag args lent = some (r, lent')) : CallOK P f tag args lent r lent' := by
 intro w vs m pre hgp
 obtain ⟨fn, hfn, hbody, hnt, hres⟩ := hf.fn
 refine .inl ⟨hf.enter _ _, ?_⟩
 unfold runFn at hr
 split at hr
 ·rename_i hlen
  obtain ⟨hla, hll⟩ := hlen
  have hvl := pre.args.length
  cases hd : den loopω L fa.ann Γ fa.body { env := argEnv 0 args, heap := lentHeap tag 0 lent, next := 1, tag } with
  | none => rw [hd] at hr; cases hr
  | some p =>
   obtain ⟨e, st⟩ := p
   rw [hd] at hr
   have h0 : RelM ⟨w, Own ⟨w, lentHeap tag 0 lent, m, tag, 1⟩, fa.np, m.base, m.ext, m.ban, m.gl, m.tk⟩ fa.ann.nt { env := argEnv 0 args, heap := lentHeap tag 0 lent, next := 1, tag }
     {tmps := vs.toArray ++ Array.replicate (fn.ntmps - vs.toArray.size) undef, defers := [] } w m := by
    refine ⟨Marks.nil, ?_, Nat.le_refl _, ⟨pre.mB.1, pre.mB.2, rfl, rfl, fun g v hv => ⟨⟨(pre.glob g v hv).1.1, fun x => (pre.glob g v hv).1.2 (.inl x), fun x => (pre.glob g v hv).1.2 (.inr x)⟩, (pre.glob g v hv).2⟩, rfl⟩, fun k v hk => ?_, Pres.refl _ _, fun k b hb => ?_, pre.apart⟩
    ·have := hf.le; simp; omega
    ·simp only [zec, Nat.zero_le, if_true, Nat.sub_zero] at hk
     obtain ⟨x, g1, g2, _⟩ := pre.args.get hk
     have hlt : k < vs.length := (List.getElem?_eq_some_iff.1 g1).1
     rw [Array.getD_eq_getD_getElem?, Array.getElem?_append_left (by simpa using hlt)]
     simp only [List.getElem?_toArray, g1, Option.getD_some]
     exact g2
    ·obtain ⟨g1, g2⟩ := pre.blk k b hb
     have hb' := hb
     have hkl : k < lent.length := by
      simp only [zas, Nat.zero_le, if_true, Nat.sub_zero] at hb'
      by_cases hk : k < lent.length
      ·exact hk
      ·rw [List.getElem?_eq_none (by omega)] at hb'; cases hb'
     have hst : b.stamp = (tag, 0) := by
      simp only [zas, Nat.zero_le, if_true, Nat.sub_zero] at hb'
      split at hb'
      ·simp only [qO1] at hb'; rw [← hb']
      ·cases hb'
     refine ⟨by rw [hst]; exact zay tag 0, fun _ => ⟨rfl, rfl⟩, ?_⟩
     refine cellsI (zm2 (by have := hf.le; have := hf.few; omega)) ?_
     rcases g2 with g2 | ⟨cs, e, fr, q1, q2, q3, us, q4, q5⟩
     ·exact .inl ⟨g2, by show m.ext k = 0; rw [g1, g2]; rfl⟩
     ·refine .inr ⟨cs, e, fr, q1, q2, by show _ ≤ m.ext k; omega, fun hnp => by simp only at hnp; omega, fun o o1 o2 => ⟨q3 o o1 o2, .inr ⟨k, b, hb, rfl, o1, o2⟩⟩, us, q4, q5⟩
   have hwp := den_wp hf.few hm hL hΓ ⟨hgp, hf.rd⟩ none 0 fa.body (.inl rfl) hf.draws _ _ w m e st h0 hd
   refine zdb.1 (callsIn_of_wp_marks hfn hbody trivial (Go.wpIn_mono hwp ?_))
   rintro ex a' w' ⟨he, m', hR⟩
   have fin : ∀ (hr : (do let gs ← getAll L st fa.results; let (vs, _) ← freezeAll fa.np fa.frz st gs; let r ← lentOut st 0 lent; some (oneOrTup vs, r)) = some (r, lent')) (a' : Act) (w' : World) (hR : RelM ⟨w, Own ⟨w, lentHeap tag 0 lent, m, tag, 1⟩, fa.np, m.base, m.ext, m.ban, m.gl, m.tk⟩ fa.ann.nt st a' w' m'),
     ∃ v, (results fn a'.tmps).run P w' = .ok v w' ∧ ∃ x, Ending.returned v = .returned x ∧ CallPost w w' tag lent lent' m r x := by
    intro hr a' w' hR
    cases hga : getAll L st fa.results with
    | none => simp [hga] at hr
    | some gs =>
    obtain ⟨xs, hxs, hrun⟩ := zg4 hL hR fa.results gs hga
    cases hfr : freezeAll fa.np fa.frz st gs with
    | none => simp [hga, hfr] at hr
    | some q =>
     obtain ⟨outs, ss⟩ := q
     cases hlo : lentOut st 0 lent with
     | none => simp [hga, hfr, hlo] at hr
     | some lo =>
      simp only [hga, hfr, hlo, qO3, qO2, qO1, qO4] at hr
      obtain ⟨rfl, rfl⟩ := hr
      obtain ⟨rs, g1, g2, g3⟩ := zep hR fa.frz _ _ outs ss hxs hfr
      obtain ⟨l1, l2, l3⟩ := zfc 0 lent lo hlo
      refine ⟨_, zfq hres hrun, _, rfl, ⟨hR.pres, ?_, l1, l2, fun k old hk => ?_⟩⟩
      ·refine ⟨rs, ?_, g2⟩
       match xs with
       | [] =>
        cases g1
        exact .tup .nil
       | [k] =>
        cases g1 with
        | cons hx hs => cases hs; simp only [oneOrTup, List.append_nil]; exact .one hx
       | k1 :: k2 :: ks =>
        cases g1 with
        | cons hx hs =>
         cases hs with
         | cons hy ht => exact .tup (.cons hx (.cons hy ht))
      ·obtain ⟨new, k1, k2, k3, k4⟩ := l3 k old hk
       rw [Nat.zero_add] at k2
       obtain ⟨blk, b1, b2, rfl⟩ := zap k2
       have hbase : m'.base k = m.base k := ((hR.blk k blk b1).2.1 b2).1
       rcases hR.blkAt b1 with ⟨q1, q2⟩ | ⟨cs, e, fr, r1, r2, r3, r4, r5, us, r6, r7⟩
       ·exact ⟨_, [], k1, k3, by rw [q1]; exact .nil, by simp⟩
       ·refine ⟨_, us, k1, k3, r6.pvs k4, fun j v hj => ?_⟩
        rw [← hbase, zax r1]
        exact r7 j v hj
   cases e with
   | normal =>
    cases ex <;> simp only [Ex.is] at he
    exact zdp hR (fin hr)
   | ret =>
    cases ex <;> simp only [Ex.is] at he
    exact zdp hR (fin hr)
   | exit i => cases hr
 ·cases hr
end
end Go.Sim
end
section
namespace Go.Sim
open Go
def Oracle.Le (Γ Γ' : Oracle) : Prop := ∀ f t a l r, Γ f t a l = some r → Γ' f t a l = some r
structure Tower (G : Nat → Oracle) (Γ : Oracle) : Prop where
 up : ∀ n m, n ≤ m → (G n).Le (G m)
 lim : ∀ f t a l r, Γ f t a l = some r → ∃ n, G n f t a l = some r
 below : ∀ n, (G n).Le Γ
section
variable {L : Nat → Option TI} {K : Ann} {G : Nat → Oracle} {Γ : Oracle}
theorem aCall_le {Γ Γ' : Oracle} (h : Γ.Le Γ') {own : Bool} {st : St} {d f : Nat} {args : List AV} {ts : List Nat} {r : AV × St} (hc : aCall L own Γ st d f args ts = some r) : aCall L own Γ' st d f args ts = some r := by
 unfold aCall at *
 cases hl : lendAll L st 0 args ts with
 | none => rw [hl] at hc; cases hc
 | some l =>
  simp only [hl, qO3, qO2] at hc ⊢
  split
  ·rename_i hx
   rw [if_pos hx] at hc
   cases hg : Γ f (st.tag + 1) (l.map (·.1)) (l.map (·.2.1)) with
   | none => rw [hg] at hc; cases hc
   | some p => rw [h _ _ _ _ _ hg]; rw [hg] at hc; exact hc
  ·rename_i hx; rw [if_neg hx] at hc; cases hc
theorem aCall_lim (T : Tower G Γ) {own : Bool} {st : St} {d f : Nat} {args : List AV} {ts : List Nat} {r : AV × St} (hc : aCall L own Γ st d f args ts = some r) : ∃ n, aCall L own (G n) st d f args ts = some r := by
 unfold aCall at *
 cases hl : lendAll L st 0 args ts with
 | none => rw [hl] at hc; cases hc
 | some l =>
  simp only [hl, qO3, qO2] at hc ⊢
  split at hc
  ·rename_i hx
   cases hg : Γ f (st.tag + 1) (l.map (·.1)) (l.map (·.2.1)) with
   | none => rw [hg] at hc; cases hc
   | some p =>
    obtain ⟨n, hn⟩ := T.lim _ _ _ _ _ hg
    refine ⟨n, ?_⟩
    rw [if_pos hx, hn]; rw [hg] at hc; exact hc
  ·cases hc
theorem roCall_le {Γ Γ' : Oracle} (h : Γ.Le Γ') {st : St} {f : Nat} {args : List AV} {ts : List Nat} {r : AV × St} (hc : roCall L Γ st f args ts = some r) : roCall L Γ' st f args ts = some r := by
 unfold roCall at *
 cases hl : lendAll L st 0 args ts with
 | none => rw [hl] at hc; cases hc
 | some l =>
  simp only [hl, qO3, qO2] at hc ⊢
  split
  ·rename_i hx
   rw [if_pos hx] at hc
   cases hg : Γ f (st.tag + 1) (l.map (·.1)) (l.map (·.2.1)) with
   | none => rw [hg] at hc; cases hc
   | some p => rw [h _ _ _ _ _ hg]; rw [hg] at hc; exact hc
  ·rename_i hx; rw [if_neg hx] at hc; cases hc
theorem roCall_lim (T : Tower G Γ) {st : St} {f : Nat} {args : List AV} {ts : List Nat} {r : AV × St} (hc : roCall L Γ st f args ts = some r) : ∃ n, roCall L (G n) st f args ts = some r := by
 unfold roCall at *
 cases hl : lendAll L st 0 args ts with
 | none => rw [hl] at hc; cases hc
 | some l =>
  simp only [hl, qO3, qO2] at hc ⊢
  split at hc
  ·rename_i hx
   cases hg : Γ f (st.tag + 1) (l.map (·.1)) (l.map (·.2.1)) with
   | none => rw [hg] at hc; cases hc
   | some p =>
    obtain ⟨n, hn⟩ := T.lim _ _ _ _ _ hg
    refine ⟨n, ?_⟩
    rw [if_pos hx, hn]; rw [hg] at hc; exact hc
  ·cases hc
theorem zod {Γ Γ' : Oracle} (h : Γ.Le Γ') {j0 : Nat} {hd : List AV} {rd : Option (List Nat)} {V : Pol} {st : St} {d f : Nat} {args : List AV} {r : AV × St} (hc : hCallG j0 hd f rd V Γ st d args = some r) : hCallG j0 hd f rd V Γ' st d args = some r := by
 unfold hCallG at *
 simp only [qO3, qO6] at hc ⊢
 obtain ⟨pk, h1, hc⟩ := hc
 refine ⟨pk, h1, ?_⟩
 split at hc
 ·rename_i hx
  rw [if_pos hx]
  simp only [qO6] at hc ⊢
  obtain ⟨l, h2, q, h3, hc⟩ := hc
  exact ⟨l, h2, q, h _ _ _ _ _ h3, hc⟩
 ·cases hc
theorem zkv (T : Tower G Γ) {j0 : Nat} {hd : List AV} {rd : Option (List Nat)} {V : Pol} {st : St} {d f : Nat} {args : List AV} {r : AV × St} (hc : hCallG j0 hd f rd V Γ st d args = some r) : ∃ n, hCallG j0 hd f rd V (G n) st d args = some r := by
 unfold hCallG at *
 simp only [qO3, qO6] at hc ⊢
 obtain ⟨pk, h1, hc⟩ := hc
 split at hc
 ·rename_i hx
  simp only [qO6] at hc
  obtain ⟨l, h2, q, h3, hc⟩ := hc
  obtain ⟨n, hn⟩ := T.lim _ _ _ _ _ h3
  refine ⟨n, pk, h1, ?_⟩
  rw [if_pos hx]
  simp only [qO6]
  exact ⟨l, h2, q, hn, hc⟩
 ·cases hc
theorem hCall_le {Γ Γ' : Oracle} (h : Γ.Le Γ') {rd : Option (List Nat)} {V : Pol} {st : St} {d f : Nat} {args : List AV} {r : AV × St} (hc : hCall rd V Γ st d f args = some r) : hCall rd V Γ' st d f args = some r := zod h hc
theorem zok (T : Tower G Γ) {rd : Option (List Nat)} {V : Pol} {st : St} {d f : Nat} {args : List AV} {r : AV × St} (hc : hCall rd V Γ st d f args = some r) : ∃ n, hCall rd V (G n) st d f args = some r := zkv T hc
theorem yCall_le {Γ Γ' : Oracle} (h : Γ.Le Γ') {rd : Option (List Nat)} {st : St} {d : Nat} {y : YInfo} {args : List AV} {r : AV × St} (hc : yCall rd Γ st d y args = some r) : yCall rd Γ' st d y args = some r := by
 unfold yCall at *
 split at hc
 ·rename_i hx; rw [if_pos hx]; exact zod h hc
 ·cases hc
theorem yCall_lim (T : Tower G Γ) {rd : Option (List Nat)} {st : St} {d : Nat} {y : YInfo} {args : List AV} {r : AV × St} (hc : yCall rd Γ st d y args = some r) : ∃ n, yCall rd (G n) st d y args = some r := by
 unfold yCall at *
 split at hc
 ·rename_i hx
  obtain ⟨n, hn⟩ := zkv T hc
  exact ⟨n, by rw [if_pos hx]; exact hn⟩
 ·cases hc
theorem vCall_le {Γ Γ' : Oracle} (h : Γ.Le Γ') {rd : Option (List Nat)} {own : Bool} {st : St} {d f : Nat} {args : List AV} {r : AV × St} (hc : vCall rd own Γ st d f args = some r) : vCall rd own Γ' st d f args = some r := by
 unfold vCall at *
 simp only [qO3, qO6] at hc ⊢
 obtain ⟨q, h1, hc⟩ := hc
 exact ⟨q, h _ _ _ _ _ h1, hc⟩
theorem vCall_lim (T : Tower G Γ) {rd : Option (List Nat)} {own : Bool} {st : St} {d f : Nat} {args : List AV} {r : AV × St} (hc : vCall rd own Γ st d f args = some r) : ∃ n, vCall rd own (G n) st d f args = some r := by
 unfold vCall at *
 simp only [qO3, qO6] at hc ⊢
 obtain ⟨q, h1, hc⟩ := hc
 obtain ⟨n, hn⟩ := T.lim _ _ _ _ _ h1
 exact ⟨n, q, hn, hc⟩
theorem denOp_le {Γ Γ' : Oracle} (h : Γ.Le Γ') {st : St} {d ty : Nat} {op : Op} {r : AV × St} (hc : denOp L K Γ st d ty op = some r) : denOp L K Γ' st d ty op = some r := by
 cases op <;> first | exact hc | skip
 case slice t x lo hi mx => cases mx <;> exact hc
 case makeMap t hint => cases hint <;> exact hc
 case call c =>
  simp only [denOp] at hc ⊢
  cases hk : c.callee with
  | builtin b => rw [hk] at hc; exact hc
  | invoke r s => rw [hk] at hc; exact hc
  | value f =>
   rw [hk] at hc
   simp only at hc ⊢
   cases hf : operand st f <;> rw [hf] at hc <;> first | exact hc | skip
   case yld =>
    simp only at hc ⊢
    split at hc
    ·rename_i hz; rw [if_pos hz]; exact yCall_le h hc
    ·cases hc
   simp only at hc ⊢
   split at hc
   ·rename_i hz
    rw [if_pos hz]
    split at hc
    ·rename_i hv; rw [if_pos hv]; exact vCall_le h hc
    ·rename_i hv; rw [if_neg hv]; exact hCall_le h hc
   rename_i hz
   rw [if_neg hz]
   split at hc
   ·cases hc
   ·rename_i hx
    rw [if_neg hx]
    split at hc
    ·rename_i hy; rw [if_pos hy]; exact roCall_le h hc
    ·rename_i hy; rw [if_neg hy]; exact aCall_le h hc
theorem denOp_lim (T : Tower G Γ) {st : St} {d ty : Nat} {op : Op} {r : AV × St} (hc : denOp L K Γ st d ty op = some r) : ∃ n, denOp L K (G n) st d ty op = some r := by
 cases op <;> first | exact ⟨0, hc⟩ | skip
 case slice t x lo hi mx => cases mx <;> exact ⟨0, hc⟩
 case makeMap t hint => cases hint <;> exact ⟨0, hc⟩
 case call c =>
  simp only [denOp] at hc ⊢
  cases hk : c.callee with
  | builtin b => rw [hk] at hc; exact ⟨0, hc⟩
  | invoke r s => rw [hk] at hc; exact ⟨0, hc⟩
  | value f =>
   rw [hk] at hc
   simp only at hc ⊢
   cases hf : operand st f <;> rw [hf] at hc <;> first | exact ⟨0, hc⟩ | skip
   case yld =>
    simp only at hc ⊢
    split at hc
    ·rename_i hz
     obtain ⟨n, hn⟩ := yCall_lim T hc
     exact ⟨n, by rw [if_pos hz]; exact hn⟩
    ·cases hc
   simp only at hc ⊢
   split at hc
   ·rename_i hz
    split at hc
    ·rename_i hv
     obtain ⟨n, hn⟩ := vCall_lim T hc
     exact ⟨n, by rw [if_pos hz, if_pos hv]; exact hn⟩
    ·rename_i hv
     obtain ⟨n, hn⟩ := zok T hc
     exact ⟨n, by rw [if_pos hz, if_neg hv]; exact hn⟩
   rename_i hz
   split at hc
   ·cases hc
   ·rename_i hx
    split at hc
    ·rename_i hy
     obtain ⟨n, hn⟩ := roCall_lim T hc
     exact ⟨n, by rw [if_neg hz, if_neg hx, if_pos hy]; exact hn⟩
    ·rename_i hy
     obtain ⟨n, hn⟩ := aCall_lim T hc
     exact ⟨n, by rw [if_neg hz, if_neg hx, if_neg hy]; exact hn⟩
theorem zkn {Γ Γ' : Oracle} (h : Γ.Le Γ') {ops : List Oper} {o : Oper} {st r : St} (hc : denOper L K Γ ops o st = some r) : denOper L K Γ' ops o st = some r := by
 unfold denOper at *
 split
 ·rename_i hx
  rw [if_pos hx] at hc
  cases hr : runs ops st o with
  | none => rw [hr] at hc; cases hc
  | some b =>
   rw [hr] at hc
   cases b with
   | false => exact hc
   | true =>
    simp only at hc ⊢
    cases hd : denOp L K Γ st (o.dst.getD 0) o.type o.op with
    | none => rw [hd] at hc; cases hc
    | some p => rw [denOp_le h hd]; rw [hd] at hc; exact hc
 ·rename_i hx; rw [if_neg hx] at hc; cases hc
theorem zox (T : Tower G Γ) {ops : List Oper} {o : Oper} {st r : St} (hc : denOper L K Γ ops o st = some r) : ∃ n, denOper L K (G n) ops o st = some r := by
 unfold denOper at *
 split at hc
 ·rename_i hx
  cases hr : runs ops st o with
  | none => rw [hr] at hc; cases hc
  | some b =>
   rw [hr] at hc
   cases b with
   | false => exact ⟨0, by rw [if_pos hx]; exact hc⟩
   | true =>
    simp only at hc ⊢
    cases hd : denOp L K Γ st (o.dst.getD 0) o.type o.op with
    | none => rw [hd] at hc; cases hc
    | some p =>
     obtain ⟨n, hn⟩ := denOp_lim T hd
     exact ⟨n, by rw [if_pos hx, hn]; rw [hd] at hc; exact hc⟩
 ·cases hc
theorem zjf {Γ Γ' : Oracle} (h : Γ.Le Γ') {ops : List Oper} : ∀ {l : List Oper} {st r : St}, denOps L K Γ ops l st = some r → denOps L K Γ' ops l st = some r
 | [], st, r, hc => hc
 | o :: l, st, r, hc => by
  simp only [denOps] at hc ⊢
  cases hd : denOper L K Γ ops o st with
  | none => rw [hd] at hc; cases hc
  | some s => rw [zkn h hd]; rw [hd] at hc; exact zjf h (l := l) hc
theorem zl0 (T : Tower G Γ) {ops : List Oper} : ∀ {l : List Oper} {st r : St}, denOps L K Γ ops l st = some r → ∃ n, denOps L K (G n) ops l st = some r
 | [], st, r, hc => ⟨0, hc⟩
 | o :: l, st, r, hc => by
  simp only [denOps] at hc ⊢
  cases hd : denOper L K Γ ops o st with
  | none => rw [hd] at hc; cases hc
  | some s =>
   rw [hd] at hc
   obtain ⟨n, hn⟩ := zox T hd
   obtain ⟨n', hn'⟩ := zl0 T (l := l) hc
   refine ⟨max n n', ?_⟩
   rw [zkn (T.up n _ (Nat.le_max_left _ _)) hn]
   exact zjf (T.up n' _ (Nat.le_max_right _ _)) hn'
theorem zid {f g : St → Option (Ex × St)} (h : ∀ st r, f st = some r → g st = some r) : ∀ {n : Nat} {st : St} {r : Ex × St}, loopF f n st = some r → loopF g n st = some r
 | 0, st, r, hc => by simp [loopF] at hc
 | n + 1, st, r, hc => by
  unfold loopF at hc ⊢
  cases hf : f st with
  | none => rw [hf] at hc; cases hc
  | some p =>
   obtain ⟨e, s⟩ := p
   rw [h _ _ hf]
   rw [hf] at hc
   cases e with
   | normal => exact zid h hc
   | exit i => exact hc
   | ret => exact hc
theorem den_le {Γ Γ' : Oracle} (h : Γ.Le Γ') : ∀ {code : Code} {st : St} {r : Ex × St}, den loopω L K Γ code st = some r → den loopω L K Γ' code st = some r := by
 intro code
 induction code with
 | region id ops draw =>
  intro st r hc
  simp only [den] at hc ⊢
  cases hd : denOps L K Γ ops.toList ops.toList st with
  | none => rw [hd] at hc; cases hc
  | some s => rw [zjf h hd]; rw [hd] at hc; exact hc
 | seq x y ihx ihy =>
  intro st r hc
  simp only [den] at hc ⊢
  cases hx : den loopω L K Γ x st with
  | none => rw [hx] at hc; cases hc
  | some p =>
   obtain ⟨e, s⟩ := p
   rw [ihx hx]
   rw [hx] at hc
   cases e with
   | normal => exact ihy hc
   | exit i => exact hc
   | ret => exact hc
 | cond x y z ihy ihz =>
  intro st r hc
  simp only [den] at hc ⊢
  split
  ·rename_i b hb
   rw [hb] at hc
   simp only at hc
   cases b with
   | true => simp only [if_true] at hc ⊢; exact ihy hc
   | false => simp only [if_false, Bool.false_eq_true] at hc ⊢; exact ihz hc
  ·rename_i hx
   split at hc
   ·rename_i b hb; exact (hx b hb).elim
   ·cases hc
 | block id x ih =>
  intro st r hc
  simp only [den] at hc ⊢
  cases hx : den loopω L K Γ x st with
  | none => rw [hx] at hc; cases hc
  | some p => rw [ih hx]; rw [hx] at hc; exact hc
 | loop x ih =>
  intro st r hc
  simp only [den] at hc ⊢
  obtain ⟨n, hn⟩ := zgt hc
  exact zfi (zid (fun st r hh => ih hh) hn)
 | rangeFunc g ps assign body =>
  intro st r hc
  simp only [den] at hc ⊢
  cases hg : operand st g <;> rw [hg] at hc <;> first | (cases hc; done) | skip
  cases hy : aget (firstRegion assign) K.ys with
  | none => rw [hy] at hc; cases hc
  | some y =>
   rw [hy] at hc
   simp only at hc ⊢
   split at hc
   ·rename_i hx
    rw [if_pos hx]
    simp only [qO6] at hc ⊢
    obtain ⟨q, h1, h2⟩ := hc
    exact ⟨q, hCall_le h h1, h2⟩
   ·cases hc
 | _ => intro st r hc; simpa only [den] using hc
theorem zlp (T : Tower G Γ) : ∀ {code : Code} {st : St} {r : Ex × St}, den loopω L K Γ code st = some r → ∃ n, den loopω L K (G n) code st = some r := by
 intro code
 induction code with
 | region id ops draw =>
  intro st r hc
  simp only [den] at hc ⊢
  cases hd : denOps L K Γ ops.toList ops.toList st with
  | none => rw [hd] at hc; cases hc
  | some s =>
   obtain ⟨n, hn⟩ := zl0 T hd
   exact ⟨n, by rw [hn]; rw [hd] at hc; exact hc⟩
 | seq x y ihx ihy =>
  intro st r hc
  simp only [den] at hc ⊢
  cases hx : den loopω L K Γ x st with
  | none => rw [hx] at hc; cases hc
  | some p =>
   obtain ⟨e, s⟩ := p
   rw [hx] at hc
   obtain ⟨n, hn⟩ := ihx hx
   cases e with
   | normal =>
    obtain ⟨n', hn'⟩ := ihy hc
    refine ⟨max n n', ?_⟩
    rw [den_le (T.up n _ (Nat.le_max_left _ _)) hn]
    exact den_le (T.up n' _ (Nat.le_max_right _ _)) hn'
   | exit i => exact ⟨n, by rw [hn]; exact hc⟩
   | ret => exact ⟨n, by rw [hn]; exact hc⟩
 | cond x y z ihy ihz =>
  intro st r hc
  simp only [den] at hc ⊢
  split at hc
  ·rename_i b hb
   cases b with
   | true =>
    simp only [if_true] at hc
    obtain ⟨n, hn⟩ := ihy hc
    exact ⟨n, by simpa using hn⟩
   | false =>
    simp only [if_false, Bool.false_eq_true] at hc
    obtain ⟨n, hn⟩ := ihz hc
    exact ⟨n, by simpa using hn⟩
  ·cases hc
 | block id x ih =>
  intro st r hc
  simp only [den] at hc ⊢
  cases hx : den loopω L K Γ x st with
  | none => rw [hx] at hc; cases hc
  | some p =>
   obtain ⟨n, hn⟩ := ih hx
   exact ⟨n, by rw [hn]; rw [hx] at hc; exact hc⟩
 | loop x ih =>
  intro st r hc
  simp only [den] at hc ⊢
  obtain ⟨k, hk⟩ := zgt hc
  have key : ∀ (k : Nat) (st : St), loopF (fun s => den loopω L K Γ x (trim (K.heads.find? (·.1 == firstRegion x)) s)) k st = some r →
    ∃ n, loopF (fun s => den loopω L K (G n) x (trim (K.heads.find? (·.1 == firstRegion x)) s)) k st = some r := by
   intro k
   induction k with
   | zero => intro st h; simp [loopF] at h
   | succ k ihk =>
    intro st h
    unfold loopF at h ⊢
    cases hx : den loopω L K Γ x (trim (K.heads.find? (·.1 == firstRegion x)) st) with
    | none => rw [hx] at h; cases h
    | some p =>
     obtain ⟨e, s⟩ := p
     rw [hx] at h
     obtain ⟨n, hn⟩ := ih hx
     cases e with
     | normal =>
      obtain ⟨n', hn'⟩ := ihk s h
      refine ⟨max n n', ?_⟩
      rw [den_le (T.up n _ (Nat.le_max_left _ _)) hn]
      exact zid (fun st r hh => den_le (T.up n' _ (Nat.le_max_right _ _)) hh) hn'
     | exit i => exact ⟨n, by rw [hn]; exact h⟩
     | ret => exact ⟨n, by rw [hn]; exact h⟩
  obtain ⟨n, hn⟩ := key k st hk
  exact ⟨n, zfi hn⟩
 | rangeFunc g ps assign body =>
  intro st r hc
  simp only [den] at hc ⊢
  cases hg : operand st g <;> rw [hg] at hc <;> first | (cases hc; done) | skip
  cases hy : aget (firstRegion assign) K.ys with
  | none => rw [hy] at hc; cases hc
  | some y =>
   rw [hy] at hc
   simp only at hc ⊢
   split at hc
   ·rename_i hx
    simp only [qO6] at hc
    obtain ⟨q, h1, h2⟩ := hc
    obtain ⟨n, hn⟩ := zok T h1
    exact ⟨n, by rw [if_pos hx]; simp only [qO6]; exact ⟨q, hn, h2⟩⟩
   ·cases hc
 | _ => intro st r hc; exact ⟨0, by simpa only [den] using hc⟩
theorem runFn_le {Γ Γ' : Oracle} (h : Γ.Le Γ') {a : AFn} {tag : Nat} {args : List AV} {lent : List (Option (List AV))} {r : AV × List (Option (List AV))} (hc : runFn loopω L a Γ tag args lent = some r) :
  runFn loopω L a Γ' tag args lent = some r := by
 unfold runFn at *
 split
 ·rename_i hx
  rw [if_pos hx] at hc
  cases hd : den loopω L a.ann Γ a.body { env := argEnv 0 args, heap := lentHeap tag 0 lent, next := 1, tag } with
  | none => rw [hd] at hc; cases hc
  | some p => rw [den_le h hd]; rw [hd] at hc; exact hc
 ·rename_i hx; rw [if_neg hx] at hc; cases hc
theorem runFn_lim (T : Tower G Γ) {a : AFn} {tag : Nat} {args : List AV} {lent : List (Option (List AV))} {r : AV × List (Option (List AV))} (hc : runFn loopω L a Γ tag args lent = some r) :
  ∃ n, runFn loopω L a (G n) tag args lent = some r := by
 unfold runFn at *
 split at hc
 ·rename_i hx
  cases hd : den loopω L a.ann Γ a.body { env := argEnv 0 args, heap := lentHeap tag 0 lent, next := 1, tag } with
  | none => rw [hd] at hc; cases hc
  | some p =>
   obtain ⟨n, hn⟩ := zlp T hd
   exact ⟨n, by rw [if_pos hx, hn]; rw [hd] at hc; exact hc⟩
 ·cases hc
theorem zn8 {Γ Γ' : Oracle} (h : Γ.Le Γ') {a : AFn} {tag : Nat} {args : List AV} {lent : List (Option (List AV))} {r : AV × List (Option (List AV))} (hc : runFnH loopω L a Γ tag args lent = some r) :
  runFnH loopω L a Γ' tag args lent = some r := by
 unfold runFnH at *
 split
 ·rename_i hx
  rw [if_pos hx] at hc
  cases hd : den loopω L a.ann Γ a.body { env := argEnv 0 args, heap := hHeap tag lent, next := 1, tag } with
  | none => rw [hd] at hc; cases hc
  | some p => rw [den_le h hd]; rw [hd] at hc; exact hc
 ·rename_i hx; rw [if_neg hx] at hc; cases hc
theorem runFnH_lim (T : Tower G Γ) {a : AFn} {tag : Nat} {args : List AV} {lent : List (Option (List AV))} {r : AV × List (Option (List AV))} (hc : runFnH loopω L a Γ tag args lent = some r) :
  ∃ n, runFnH loopω L a (G n) tag args lent = some r := by
 unfold runFnH at *
 split at hc
 ·rename_i hx
  cases hd : den loopω L a.ann Γ a.body { env := argEnv 0 args, heap := hHeap tag lent, next := 1, tag } with
  | none => rw [hd] at hc; cases hc
  | some p =>
   obtain ⟨n, hn⟩ := zlp T hd
   exact ⟨n, by rw [if_pos hx, hn]; rw [hd] at hc; exact hc⟩
 ·cases hc
theorem zmn {Γ Γ' : Oracle} (h : Γ.Le Γ') {y : YInfo} {tag : Nat} {args : List AV} {lent : List (Option (List AV))} {r : AV × List (Option (List AV))} (hc : runFnY loopω L y K Γ tag args lent = some r) :
  runFnY loopω L y K Γ' tag args lent = some r := by
 unfold runFnY at *
 split at hc
 ·rename_i hx
  rw [if_pos hx]
  split at hc
  ·rename_i st1 hd1
   rw [den_le h hd1]
   simp only
   split at hc
   ·rename_i hy
    rw [if_pos hy]
    split at hc
    ·rename_i st hd2
     rw [den_le h hd2]
     exact hc
    ·cases hc
   ·cases hc
  ·cases hc
 ·cases hc
theorem runFnY_lim (T : Tower G Γ) {y : YInfo} {tag : Nat} {args : List AV} {lent : List (Option (List AV))} {r : AV × List (Option (List AV))} (hc : runFnY loopω L y K Γ tag args lent = some r) :
  ∃ n, runFnY loopω L y K (G n) tag args lent = some r := by
 unfold runFnY at *
 split at hc
 ·rename_i hx
  split at hc
  ·rename_i st1 hd1
   split at hc
   ·rename_i hy
    split at hc
    ·rename_i st hd2
     obtain ⟨n1, h1⟩ := zlp T hd1
     obtain ⟨n2, h2⟩ := zlp T hd2
     refine ⟨max n1 n2, ?_⟩
     rw [if_pos hx, den_le (T.up n1 _ (Nat.le_max_left _ _)) h1]
     simp only
     rw [if_pos hy, den_le (T.up n2 _ (Nat.le_max_right _ _)) h2]
     exact hc
    ·cases hc
   ·cases hc
  ·cases hc
 ·cases hc
variable {T : Nat → Option Entry}
theorem zd5 (lp : (St → Option (Ex × St)) → St → Option (Ex × St)) (n f : Nat) (t : Nat) (a : List AV) (l : List (Option (List AV))) : callN lp L T (n + 1) f t a l =
  (match T f with
  | none => none
  | some (.law o) => o t a l
  | some (.code x) => runFn lp L x (callN lp L T n) t a l
  | some (.hcode x) => match a with
   | .mapd [] [] :: as => runFnH lp L x (callN lp L T n) t as l
   | _ => none
  | some (.ycode y K) => match a with
   | .mapd [.nilM] [] :: .yld y' [] :: as => (open Classical in if y' = y then runFnY lp L y K (callN lp L T n) t as l else none)
   | _ => none
  | some (.hlaw o) => match a with
   | .mapd [] [] :: as => o t as l
   | _ => none) := rfl
theorem zfe : ∀ n, (callN loopω L T n).Le (callN loopω L T (n + 1))
 | 0 => fun f t a l r h => by simp [callN] at h
 | n + 1 => fun f t a l r h => by
  rw [zd5] at h ⊢
  cases he : T f with
  | none => rw [he] at h; cases h
  | some e =>
   rw [he] at h
   cases e with
   | law o => exact h
   | code x => exact runFn_le (zfe n) h
   | hcode x =>
    simp only at h ⊢
    split at h
    ·exact zn8 (zfe n) h
    ·cases h
   | ycode y K =>
    simp only at h ⊢
    split at h
    ·split at h
     ·rename_i e; rw [if_pos e]; exact zmn (zfe n) h
     ·cases h
    ·cases h
   | hlaw o => exact h
theorem zlq (n m : Nat) (h : n ≤ m) : (callN loopω L T n).Le (callN loopω L T m) := by
 induction m with
 | zero => have : n = 0 := by omega
           subst this; exact fun _ _ _ _ _ x => x
 | succ m ih =>
  by_cases e : n = m + 1
  ·subst e; exact fun _ _ _ _ _ x => x
  ·exact fun f t a l r x => zfe m f t a l r (ih (by omega) f t a l r x)
theorem zg9 {n f : Nat} {t : Nat} {a : List AV} {l : List (Option (List AV))} {r : AV × List (Option (List AV))} (h : callN loopω L T n f t a l = some r) : callω L T f t a l = some r := by
 have hx : ∃ n, (callN loopω L T n f t a l).isSome := ⟨n, by rw [h]; rfl⟩
 unfold callω
 rw [dif_pos hx]
 obtain ⟨q, hq⟩ := Option.isSome_iff_exists.1 hx.choose_spec
 have h1 := zlq n _ (Nat.le_max_left n hx.choose) f t a l r h
 have h2 := zlq _ _ (Nat.le_max_right n hx.choose) f t a l q hq
 rw [h1] at h2
 rw [hq, ← h2]
theorem zba : Tower (callN loopω L T) (callω L T) := by
 refine ⟨zlq, fun f t a l r h => ?_, fun n f t a l r h => zg9 h⟩
 unfold callω at h
 split at h
 ·exact ⟨_, h⟩
 ·cases h
theorem callω_code {f : Nat} {x : AFn} (h : T f = some (.code x)) {tag : Nat} {args : List AV} {lent : List (Option (List AV))} : callω L T f tag args lent = runFn loopω L x (callω L T) tag args lent := by
 have up : ∀ r, runFn loopω L x (callω L T) tag args lent = some r → callω L T f tag args lent = some r := fun r hr => by
  obtain ⟨n, hn⟩ := runFn_lim zba hr
  refine zg9 (n := n + 1) ?_
  rw [zd5, h]; exact hn
 have down : ∀ r, callω L T f tag args lent = some r → runFn loopω L x (callω L T) tag args lent = some r := fun r hr => by
  obtain ⟨n, hn⟩ := zba.lim _ _ _ _ _ hr
  cases n with
  | zero => simp [callN] at hn
  | succ n =>
   rw [zd5, h] at hn
   exact runFn_le (zba.below n) hn
 cases h1 : callω L T f tag args lent with
 | some r => exact (down r h1).symm
 | none =>
  cases h2 : runFn loopω L x (callω L T) tag args lent with
  | none => rfl
  | some r => rw [up r h2] at h1; cases h1
theorem zpd {f : Nat} {x : AFn} (h : T f = some (.hcode x)) {tag : Nat} {args : List AV} {lent : List (Option (List AV))} : callω L T f tag (.mapd [] [] :: args) lent = runFnH loopω L x (callω L T) tag args lent := by
 have up : ∀ r, runFnH loopω L x (callω L T) tag args lent = some r → callω L T f tag (.mapd [] [] :: args) lent = some r := fun r hr => by
  obtain ⟨n, hn⟩ := runFnH_lim zba hr
  refine zg9 (n := n + 1) ?_
  rw [zd5, h]; exact hn
 have down : ∀ r, callω L T f tag (.mapd [] [] :: args) lent = some r → runFnH loopω L x (callω L T) tag args lent = some r := fun r hr => by
  obtain ⟨n, hn⟩ := zba.lim _ _ _ _ _ hr
  cases n with
  | zero => simp [callN] at hn
  | succ n =>
   rw [zd5, h] at hn
   exact zn8 (zba.below n) hn
 cases h1 : callω L T f tag (.mapd [] [] :: args) lent with
 | some r => exact (down r h1).symm
 | none =>
  cases h2 : runFnH loopω L x (callω L T) tag args lent with
  | none => rfl
  | some r => rw [up r h2] at h1; cases h1
theorem zpv {f : Nat} {y : YInfo} {K : Ann} (h : T f = some (.ycode y K)) {tag : Nat} {args : List AV} {lent : List (Option (List AV))} : callω L T f tag (.mapd [.nilM] [] :: .yld y [] :: args) lent = runFnY loopω L y K (callω L T) tag args lent := by
 have up : ∀ r, runFnY loopω L y K (callω L T) tag args lent = some r → callω L T f tag (.mapd [.nilM] [] :: .yld y [] :: args) lent = some r := fun r hr => by
  obtain ⟨n, hn⟩ := runFnY_lim zba hr
  refine zg9 (n := n + 1) ?_
  rw [zd5, h]; simp only [if_true]; exact hn
 have down : ∀ r, callω L T f tag (.mapd [.nilM] [] :: .yld y [] :: args) lent = some r → runFnY loopω L y K (callω L T) tag args lent = some r := fun r hr => by
  obtain ⟨n, hn⟩ := zba.lim _ _ _ _ _ hr
  cases n with
  | zero => simp [callN] at hn
  | succ n =>
   rw [zd5, h] at hn
   simp only [if_true] at hn
   exact zmn (zba.below n) hn
 cases h1 : callω L T f tag (.mapd [.nilM] [] :: .yld y [] :: args) lent with
 | some r => exact (down r h1).symm
 | none =>
  cases h2 : runFnY loopω L y K (callω L T) tag args lent with
  | none => rfl
  | some r => rw [up r h2] at h1; cases h1
theorem zn3 {f : Nat} {o : Nat → List AV → List (Option (List AV)) → Option (AV × List (Option (List AV)))} (h : T f = some (.law o)) {tag : Nat} {args : List AV} {lent : List (Option (List AV))} :
  callω L T f tag args lent = o tag args lent := by
 have up : ∀ r, o tag args lent = some r → callω L T f tag args lent = some r := fun r hr => zg9 (n := 1) (by rw [zd5, h]; exact hr)
 have down : ∀ r, callω L T f tag args lent = some r → o tag args lent = some r := fun r hr => by
  obtain ⟨n, hn⟩ := zba.lim _ _ _ _ _ hr
  cases n with
  | zero => simp [callN] at hn
  | succ n => rw [zd5, h] at hn; exact hn
 cases h1 : callω L T f tag args lent with
 | some r => exact (down r h1).symm
 | none =>
  cases h2 : o tag args lent with
  | none => rfl
  | some r => rw [up r h2] at h1; cases h1
end
end Go.Sim
end
section
namespace Go.Sim
open Go
section
variable {P : Program} {c : Cx} {nt : Nat} {st : St} {a : Act} {w : World} {m : Mp}
theorem VRs.setAt {s : S} {one : Bool} {new : AV} : ∀ {cells : List AV} {vs : List Value} {o : Nat} {old : AV}, VRs s one cells vs → cells[o]? = some old → (∀ v, VR s old v → VR s new v) → new.top = true → VRs s one (cells.set o new) vs
 | _, _, _, _, .nil _, h, _, _ => by simp at h
 | _, _, 0, _, .cons h1 hv hs, h, hn, ht => by
  simp only [List.getElem?_cons_zero, qO1] at h
  subst h
  exact .cons (fun e => ⟨(h1 e).1, ht⟩) (hn _ hv) hs
 | _, _, o + 1, _, .cons h1 hv hs, h, hn, ht => by
  simp only [List.getElem?_cons_succ] at h
  exact .cons h1 hv (hs.setAt h hn ht)
theorem RelM.mat1 (h : RelM c nt st a w m) (vs : List AV) (x : Nat × Nat × Nat × Nat) : ∃ m', RelM c nt (matOne vs st x) a w m' := by
 unfold matOne
 split
 ·rename_i k g o hv
  split
  ·rename_i b hb
   split
   ·rename_i hc
    split
    ·exact ⟨m, h⟩
    ·rename_i hk
     simp only [Bool.or_eq_true, not_or, Bool.not_eq_true] at hk
     obtain ⟨⟨k1, k2⟩, k3⟩ := hk
     have hne : x.2.2.2 ≠ k := fun e => by rw [e, Nat.beq_refl] at k1; cases k1
     have hT : Turn st w m x.2.2.2 ⟨(st.tag, st.next), []⟩ (st.next + 1) w (0, 0) 0 := ⟨Pres.refl _ _, Nat.le_succ _, .inl rfl, .inr zbr⟩
     have h1 := h.turn hT ⟨zay _ _, fun e => by
      have := h.next1
      simp only [turned, qO4] at e
      omega, cellsI k3 (.inl ⟨rfl, by simp [Mp.set]⟩)⟩
     rw [← zb4] at h1
     generalize hst : (newBlk st x.2.2.2 []).2 = st1 at h1 ⊢
     have hb1 : aget k st1.heap = some b := by
      rw [← hst]
      simp only [newBlk, zan, if_neg hne]; exact hb
     have htag : st1.tag = st.tag ∧ st1.next = st.next + 1 := by rw [← hst]; exact ⟨rfl, rfl⟩
     generalize m.set x.2.2.2 (0, 0) 0 = m1 at h1
     have hput : putCells st1 k (b.cells.set (o + x.2.1) (.msl x.2.2.2 (st.tag, st.next) x.2.2.1 0 0)) = turned st1 k ⟨b.stamp, b.cells.set (o + x.2.1) (.msl x.2.2.2 (st.tag, st.next) x.2.2.1 0 0)⟩ st1.next := by
      simp [putCells, hb1, turned]
     have hB := h1.blk k b hb1
     have hT2 : Turn st1 w m1 k ⟨b.stamp, b.cells.set (o + x.2.1) (.msl x.2.2.2 (st.tag, st.next) x.2.2.1 0 0)⟩ st1.next w (m1.base k) (m1.ext k) :=
      ⟨Pres.refl _ _, Nat.le_refl _, .inr (.inr ⟨⟨b, hb1⟩, rfl, Nat.le_refl _, Nat.le_refl _⟩), .inl ⟨b, hb1, rfl, rfl, rfl, by simp⟩⟩
     have hl := hT2.later
     have hmset := m1.set_self k
     rw [hput]
     refine ⟨m1, ?_⟩
     have hR := h1.turn hT2 (by
      rw [hmset] at hl ⊢
      obtain ⟨q1, q2, q3⟩ := hB
      refine ⟨hl.ok _ q1, q2, ?_⟩
      rw [if_neg (by rw [k2]; simp)] at q3 ⊢
      rcases q3 with ⟨e1, _⟩ | ⟨cs, e, fr, g1, g2, g3, g4, g5, vs, g6, g7⟩
      ·rw [e1] at hc; simp at hc
      ·refine .inr ⟨cs, e, fr, g1, g2, by simpa using g3, g4, g5, vs, ?_, g7⟩
       refine (g6.later hl).setAt hc (fun v hv => ?_) rfl
       cases hv with
       | nsl =>
        refine .msl ?_ ⟨rfl, Nat.le_refl _⟩ fun blk hb hs => ⟨by simp, .inr ⟨rfl, _, rfl⟩⟩
        show okS st1.tag st1.next (st.tag, st.next)
        rw [htag.1, htag.2]
        exact zay _ _)
     rw [hmset] at hR
     exact hR
   ·exact ⟨m, h⟩
  ·exact ⟨m, h⟩
 ·exact ⟨m, h⟩
theorem RelM.mat {m : Mp} (h : RelM c nt st a w m) (l : List (Nat × Nat × Nat × Nat)) (vs : List AV) : ∃ m', RelM c nt (matAll vs l st) a w m' := by
 induction l generalizing st m with
 | nil => exact ⟨m, h⟩
 | cons x l ih =>
  obtain ⟨m1, h1⟩ := h.mat1 vs x
  exact ih h1
end
end Go.Sim
end
section
namespace Go.Sim
open Go
variable {P : Program} {L : Nat → Option TI} {Γ : Oracle}
theorem VR.oneOrTup {s : S} {gs : List AV} {xs : List Value} (h : VRs s false gs xs) : VR s (Sim.oneOrTup gs) (resV xs) := by
 cases h with
 | nil _ => exact .tup (.nil _)
 | cons h1 hv hs =>
  cases hs with
  | nil _ => exact hv
  | cons h2 hv2 hs2 => exact .tup (.cons h1 hv (.cons h2 hv2 hs2))
theorem zol (u : Dir) (pk : Pk) (gs : List AV) : oneOrTup (gs.map (ren u pk)) = ren u pk (oneOrTup gs) := by
 match gs with
 | [] => simp [oneOrTup, Sim.ren, renL]
 | [v] => rfl
 | v :: w :: l =>
  show AV.tup ((v :: w :: l).map (ren u pk)) = ren u pk (.tup (v :: w :: l))
  rw [← zee]
  simp only [Sim.ren]
theorem hOut {w w' : World} {tag nt : Nat} {args : List AV} {lent lo : List (Option (List AV))} {m m' : Mp} {st : St} {a' : Act} {rs : List (AV × Nat)} {pk : Pk} {v : AV} {x : Value} (hR : RelM (HCx w tag lent m) nt st a' w' m')
  (hvi : visit none .all st (tag, 0) 200 rs [] = some pk) (hpk : pkOk pk = true) (htag : st.tag = tag) (hroots : ∀ k ∈ rootKeys args, look k (tag, 0) pk = some (k, (tag, 0))) (hlo : packed .plain st pk pk = some lo) (hx : VR (At st w' m') v x) :
  HPost w w' tag args lent lo m (mpk m' pk m.B m.ban m.tk) (ren .plain pk v) x := by
 have hbn : m'.ban = m.ban := hR.mB.2.2.1
 have hgl : m'.gl = m.gl := hR.mB.2.2.2.1
 have htk : m'.tk = m.tk := hR.mB.2.2.2.2.2
 have hdir : Dir.plain.Ok (At st w' m') (HS w' tag lo (mpk m' pk m.B m.ban m.tk)) := fun t v x hv => by
  show m.tk t v x
  rw [← htk]; exact hv
 have hP : Packed .plain st m' pk tag lo (HS w' tag lo (mpk m' pk m.B m.ban m.tk)) := zjm hpk (fun x hx => (zbj hvi (by simp) x hx).1) hlo
 have hban : ∀ b o, (mpk m' pk m.B m.ban m.tk).ban b o → Held (At st w' m') b o := fun b o hb => .inr (by show m'.ban b o; rw [hbn]; exact hb)
 have hA := hP.anew (w := w') rfl rfl rfl hban rfl hdir
 refine ⟨⟨rfl, rfl, hgl, rfl⟩, hR.pres, ?_, ?_, fun k hk b hb => ?_⟩
 ·exact hx.ren hA
 ·refine hP.mem hR hban rfl hdir rfl fun k' b' hb o o1 o2 => ?_
  obtain ⟨k, g, b, q1, q2, q3, q4, q5, q6⟩ := hP.blk k' b' hb
  simp only at q5 q6
  rw [q5] at o1 o2 ⊢
  rw [q6] at o2
  exact (hR.blk k b q2).mine o1 o2
 ·have hmem := zdj (hroots k hk)
  obtain ⟨k0, g, b0, q1, q2, q3, q4, q5, q6⟩ := hP.blk k b hb
  have e1 := zbs hP.news q1
  rw [zbs hP.news hmem] at e1
  cases e1
  have e2 : g = (tag, 0) := by
   have key : ∀ {l : Pk} {x y : Nat × (Nat × Nat) × Nat × (Nat × Nat)}, (l.map (·.1)).Nodup → x ∈ l → y ∈ l → x.1 = y.1 → x = y := by
    intro l
    induction l with
    | nil => intro x y _ hx; cases hx
    | cons z l ih =>
     intro x y hd hx hy e
     simp only [List.map_cons, List.nodup_cons] at hd
     rcases List.mem_cons.1 hx with rfl | hx' <;> rcases List.mem_cons.1 hy with rfl | hy'
     ·rfl
     ·exact (hd.1 (e ▸ List.mem_map_of_mem hy')).elim
     ·exact (hd.1 (e ▸ List.mem_map_of_mem hx')).elim
     ·exact ih hd.2 hx' hy' e
   have := key hP.olds q1 hmem rfl
   cases this; rfl
  have hb0 := (hR.blk k b0 q2).2.1 (by rw [q3, e2]; simp only [At, htag])
  simp only at q5 q6
  rw [q5, q6]
  exact hb0
theorem hBegin {w : World} {tag : Nat} {args : List AV} {lent : List (Option (List AV))} {vs : List Value} {m : Mp} (pre : HPre w tag args lent vs m) {nt : Nat} {env : List (Nat × AV)} {tmps : Array Value} (hs : tmps.size = nt)
  (he : ∀ k v, aget k env = some v → VR (HS w tag lent m) v (tmps.getD k undef)) :
  RelM (HCx w tag lent m) nt { env := env, heap := hHeap tag lent, next := 1, tag } { tmps := tmps, defers := [] } w m := by
 refine ⟨Marks.nil, hs, Nat.le_refl _, ⟨pre.mB.1, pre.mB.2, rfl, rfl, fun g v hv => ⟨⟨(pre.glob g v hv).1.1, fun x => (pre.glob g v hv).1.2 (.inl x), fun x => (pre.glob g v hv).1.2 (.inr x)⟩, (pre.glob g v hv).2⟩, rfl⟩, he, Pres.refl _ _, fun k b hb => ?_, pre.mem.apart⟩
 obtain ⟨g1, g2⟩ := pre.mem.blk k b hb
 exact ⟨by rw [g1]; exact zay tag 0, fun _ => ⟨rfl, rfl⟩, g2⟩
theorem runFnH_ok (hm : P.follows .mixedOrders = true) (hL : LOK P L) (hΓ : OracleOK P Γ) {f : Nat} {fa : AFn} (hf : FnOK P L f fa) {tag : Nat} {args : List AV} {lent lent' : List (Option (List AV))} {r : AV}
  (hr : runFnH loopω L fa Γ tag args lent = some (r, lent')) : CallOKH P f tag args lent r lent' := by
 intro w vs m pre hgp
 obtain ⟨fn, hfn, hbody, hnt, hres⟩ := hf.fn
 refine .inl ⟨hf.enter _ _, ?_⟩
 unfold runFnH at hr
 split at hr
 ·rename_i hla
  have hvl := pre.args.length
  cases hd : den loopω L fa.ann Γ fa.body { env := argEnv 0 args, heap := hHeap tag lent, next := 1, tag } with
  | none => rw [hd] at hr; cases hr
  | some p =>
   obtain ⟨e, st⟩ := p
   rw [hd] at hr
   have h0 : RelM (HCx w tag lent m) fa.ann.nt { env := argEnv 0 args, heap := hHeap tag lent, next := 1, tag }
     {tmps := vs.toArray ++ Array.replicate (fn.ntmps - vs.toArray.size) undef, defers := [] } w m := by
    refine hBegin pre (by have := hf.le; simp; omega) fun k v hk => ?_
    simp only [zec, Nat.zero_le, if_true, Nat.sub_zero] at hk
    obtain ⟨x, g1, g2, _⟩ := pre.args.get hk
    have hlt : k < vs.length := (List.getElem?_eq_some_iff.1 g1).1
    rw [Array.getD_eq_getD_getElem?, Array.getElem?_append_left (by simpa using hlt)]
    simp only [List.getElem?_toArray, g1, Option.getD_some]
    exact g2
   have hwp := den_wp hf.few hm hL hΓ ⟨hgp, hf.rd⟩ none 0 fa.body (.inl rfl) hf.draws _ _ w m e st h0 hd
   refine zdb.1 (callsIn_of_wp_marks hfn hbody trivial (Go.wpIn_mono hwp ?_))
   rintro ex a' w' ⟨he, m', hR⟩
   have fin0 : ∀ (st : St) (hr : endH L fa.results tag args st = some (r, lent')) (a' : Act) (w' : World) (m' : Mp) (hR : RelM (HCx w tag lent m) fa.ann.nt st a' w' m'),
     ∃ v, (results fn a'.tmps).run P w' = .ok v w' ∧ ∃ x, Ending.returned v = .returned x ∧ ∃ m', HPost w w' tag args lent lent' m m' r x := by
    intro st hr a' w' m' hR
    unfold endH at hr
    cases hga : getAll L st fa.results with
    | none => simp [hga] at hr
    | some gs =>
    obtain ⟨xs, hxs, hrun⟩ := zg4 hL hR fa.results gs hga
    cases hvi : visit none .all st (tag, 0) 200 (rootsAt 0 args ++ rootsAt 400000 gs) [] with
    | none => simp [hga, hvi] at hr
    | some pk =>
    simp only [hga, hvi, qO3, qO2] at hr
    split at hr
    ·rename_i hc
     simp only [qO5, List.all_eq_true, beq_iff_eq] at hc
     obtain ⟨⟨hpk, htag⟩, hroots⟩ := hc
     cases hlo : packed .plain st pk pk with
     | none => simp [hlo] at hr
     | some lo =>
      simp only [hlo, qO2, qO1, qO4] at hr
      obtain ⟨rfl, rfl⟩ := hr
      refine ⟨_, zfq hres hrun, _, rfl, mpk m' pk m.B m.ban m.tk, ?_⟩
      rw [zol]
      exact hOut hR hvi hpk htag hroots hlo (VR.oneOrTup hxs)
    ·cases hr
   have fin : ∀ (hr : finM L fa.ann.mat fa.results tag args st = some (r, lent')) (a' : Act) (w' : World) (hR : RelM (HCx w tag lent m) fa.ann.nt st a' w' m'),
     ∃ v, (results fn a'.tmps).run P w' = .ok v w' ∧ ∃ x, Ending.returned v = .returned x ∧ ∃ m', HPost w w' tag args lent lent' m m' r x := by
    intro hr a' w' hR
    unfold finM at hr
    split at hr
    ·exact fin0 _ hr a' w' m' hR
    ·simp only [qO6] at hr
     obtain ⟨gs, _, hr⟩ := hr
     obtain ⟨m2, hR2⟩ := hR.mat fa.ann.mat (args ++ gs)
     exact fin0 _ hr a' w' m2 hR2
   cases e with
   | normal =>
    cases ex <;> simp only [Ex.is] at he
    exact zdp hR (fin hr)
   | ret =>
    cases ex <;> simp only [Ex.is] at he
    exact zdp hR (fin hr)
   | exit i => cases hr
 ·cases hr
structure YOK (P : Program) (L : Nat → Option TI) (y : YInfo) (K : Ann) : Prop where
 draws : drawsOk L K y.assign = true ∧ drawsOk L K y.body = true
 calm : noRange y.assign = true ∧ noRange y.body = true
 nt : y.nt = K.nt
 few : K.nt ≤ 500000
 nodup : y.ps.Nodup
 lt : ∀ k ∈ y.ps, k < K.nt
 rd : ∀ g, (aget (1000000000 + g) K.reads).isSome = true → errG P g = true
def putAll : List Nat → List Value → Array Value → Array Value
 | p :: ps, u :: us, t => putAll ps us (t.setIfInBounds p u)
 | _, _, t => t
theorem putAll_eq : ∀ (ps : List Nat) (us : List Value) (t : Array Value), (ps.toArray.zip us.toArray).foldl (fun tmps (x : Nat × Value) => tmps.setIfInBounds x.1 x.2) t = putAll ps us t := by
 intro ps us t
 have : ps.toArray.zip us.toArray = (ps.zip us).toArray := by simp
 rw [this, List.foldl_toArray]
 induction ps generalizing us t with
 | nil => simp [putAll]
 | cons p ps ih =>
  cases us with
  | nil => simp [putAll]
  | cons u us => simp only [List.zip_cons_cons, List.foldl_cons, putAll]; exact ih us _ (by simp)
theorem zir : ∀ (ps : List Nat) (us : List Value) (t : Array Value), (putAll ps us t).size = t.size
 | [], _, _ => by simp [putAll]
 | _ :: _, [], _ => by simp [putAll]
 | p :: ps, u :: us, t => by simp only [putAll]; rw [zir ps us]; simp
theorem zh8 {k : Nat} : ∀ (ps : List Nat) (us : List Value) (t : Array Value), k ∉ ps → (putAll ps us t).getD k undef = t.getD k undef
 | [], _, _, _ => by simp [putAll]
 | _ :: _, [], _, _ => by simp [putAll]
 | p :: ps, u :: us, t, h => by
  simp only [List.mem_cons, not_or] at h
  simp only [putAll]
  rw [zh8 ps us _ h.2, Array.getD_eq_getD_getElem?, Array.getD_eq_getD_getElem?, Array.getElem?_setIfInBounds_ne (Ne.symm h.1)]
theorem zmx {k : Nat} {v : Value} : ∀ (ps : List Nat) (us : List Value) (t : Array Value) (i : Nat), ps.Nodup → ps[i]? = some k → us[i]? = some v → k < t.size → (putAll ps us t).getD k undef = v
 | [], _, _, i, _, h, _, _ => by simp at h
 | _ :: _, [], _, i, _, _, h, _ => by simp at h
 | p :: ps, u :: us, t, 0, hn, h1, h2, hk => by
  simp only [List.getElem?_cons_zero, qO1] at h1 h2
  subst h1; subst h2
  simp only [putAll]
  rw [zh8 ps us _ (List.nodup_cons.1 hn).1, Array.getD_eq_getD_getElem?]
  simp [hk]
 | p :: ps, u :: us, t, i + 1, hn, h1, h2, hk => by
  simp only [List.getElem?_cons_succ] at h1 h2
  simp only [putAll]
  exact zmx ps us _ i (List.nodup_cons.1 hn).2 h1 h2 (by simpa using hk)
theorem zm9 {k : Nat} {v : AV} : ∀ (ps : List Nat) (as : List AV), aget k (ps.zip as) = some v → ∃ i : Nat, ps[i]? = some k ∧ as[i]? = some v
 | [], _, h => by simp [aget] at h
 | _ :: _, [], h => by simp [aget] at h
 | p :: ps, a :: as, h => by
  simp only [List.zip_cons_cons, aget] at h
  split at h
  ·rename_i e; cases h; exact ⟨0, by simp [e], by simp⟩
  ·obtain ⟨i, h1, h2⟩ := zm9 ps as h
   exact ⟨i + 1, by simpa using h1, by simpa using h2⟩
theorem zgg {k : Nat} : ∀ (ps : List Nat) (as : List AV), ps.length ≤ as.length → aget k (ps.zip as) = none → k ∉ ps
 | [], _, _, _ => by simp
 | _ :: _, [], h, _ => by simp at h
 | p :: ps, a :: as, hl, h => by
  simp only [List.zip_cons_cons, aget] at h
  split at h
  ·cases h
  ·rename_i e
   simp only [List.mem_cons, not_or]
   exact ⟨fun x => e x.symm, zgg ps as (by simpa using hl) h⟩
theorem runFnY_ok (hm : P.follows .mixedOrders = true) (hL : LOK P L) (hΓ : OracleOK P Γ) {y : YInfo} {K : Ann} (hy : YOK P L y K) {tag : Nat} {args : List AV} {lent lent' : List (Option (List AV))} {r : AV}
  (hr : runFnY loopω L y K Γ tag args lent = some (r, lent')) : CallOKY P y tag args lent r lent' := by
 intro w us m l rec pre hgp htop hl hst hpd hrec
 obtain ⟨c1, c2, c3, c4⟩ := hrec
 unfold runFnY at hr
 split at hr
 ·rename_i hlen
  have hvl := pre.args.length
  simp only [List.length_append, List.length_map] at hvl
  have hus : us.length = y.ps.length := by omega
  have hpar : rec.params = y.ps.toArray := by rw [← c1]
  have hsz : us.toArray.size = rec.params.size := by rw [hpar]; simp [hus]
  refine ⟨_, _, _, _, run_yield hl hsz, fun r0 n => roundIn_of_wpIn (F := fenR r0) trivial ?_⟩
  show rec.assign.wpIn (fenR (some l)) n P _ _ _
  have hT : (rec.params.zip us.toArray).foldl (fun tmps (x : Nat × Value) => tmps.setIfInBounds x.1 x.2) rec.tmps = putAll y.ps us rec.tmps := by rw [hpar]; exact putAll_eq _ _ _
  rw [hT, c2, c3]
  split at hr
  ·rename_i st1 hd1
   split at hr
   ·rename_i hcalm1
    split at hr
    ·rename_i st hd2
     simp only [qO3, qO6] at hr
     obtain ⟨pk, hvi, hr⟩ := hr
     split at hr
     ·rename_i hc
      simp only [qO5] at hc
      obtain ⟨hcalm, hc⟩ := hc
      simp only [List.all_eq_true, beq_iff_eq] at hc
      obtain ⟨⟨hpk, htag⟩, hroots⟩ := hc
      simp only [qO6, qO1, qO4] at hr
      obtain ⟨lo, hlo, rfl, rfl⟩ := hr
      have h0 : RelM (HCx w tag lent m) K.nt { env := yEnv y args, heap := hHeap tag lent, next := 1, tag } { tmps := putAll y.ps us rec.tmps, defers := [] } w m := by
       refine hBegin pre (by rw [zir, c4, hy.nt]) fun k v hk => ?_
       simp only [yEnv, zc4] at hk
       cases h1 : aget k (y.ps.zip args) with
       | some v' =>
        rw [h1, Option.some_or] at hk
        cases hk
        obtain ⟨i, e1, e2⟩ := zm9 _ _ h1
        obtain ⟨x, g1, g2, _⟩ := pre.args.get e2
        have hi : i < y.ps.length := (List.getElem?_eq_some_iff.1 e1).1
        rw [List.getElem?_append_left (by omega)] at g1
        rw [zmx y.ps us rec.tmps i hy.nodup e1 g1 (by rw [c4, hy.nt]; exact hy.lt k (List.mem_of_getElem? e1))]
        exact g2
       | none =>
        rw [h1, Option.none_or] at hk
        have hno := zgg _ _ (by omega) h1
        obtain ⟨i, e1, e2⟩ := zm9 _ _ hk
        rw [List.getElem?_drop] at e2
        obtain ⟨x, g1, g2, _⟩ := pre.args.get e2
        rw [List.getElem?_append_right (by omega), show y.ps.length + i - us.length = i from by omega, List.getElem?_map, e1] at g1
        simp only [Option.map_some, qO1] at g1
        rw [zh8 y.ps us rec.tmps hno, g1]
        exact g2
      have hwp1 := den_wp hy.few hm hL hΓ ⟨hgp, hy.rd⟩ (some l) n y.assign (.inr hy.calm.1) hy.draws.1 _ _ w m .normal st1 h0 hd1
      refine Go.wpIn_mono hwp1 ?_
      rintro ex a1 w1 ⟨he, m1, hR1⟩
      cases ex <;> simp only [Ex.is] at he
      have hl1 : w1.heap[l]? = some (.loop rec) := hR1.pres.rest _ _ hl (by intros; simp) (by intros; simp)
      refine ⟨_, run_beginRound hl1 hst, ?_⟩
      show y.body.wpIn (fenR (some l)) n P _ _ _
      have hmk : ∀ {w1 : World} {o : Obj} {l' : Loop} {ds : List Deferred} {B : Nat}, w1.heap[l]? = some (.loop l') → Marks B w1 ds → Marks B (w1.putObj l o) ds := fun {w1 o l' ds B} h1 h2 => by
       obtain ⟨Ds, e1, e2, e3⟩ := h2
       refine ⟨Ds, e1, e2, fun D hD => ⟨(e3 D hD).1, ?_⟩⟩
       rw [World.putObj_heap_other (fun e => by have := (e3 D hD).2; rw [e, h1] at this; cases this)]
       exact (e3 D hD).2
      have hR2 := hR1.swap (w0 := w.putObj l (.loop { rec with state := .busy })) (w2 := w1.putObj l (.loop { rec with state := .busy })) (a2 := a1) (Sw.putObj hl1 (by intros; simp) (by intros; simp)) rfl World.putObj_size
       (by rw [World.putObj_size]; exact hmk hl1 hR1.defers) (hR1.pres.putBoth hl) (hR1.mB.2.2.2.2.1.sw (Sw.putObj hl (by intros; simp) (by intros; simp))) (.inl fun k v hk => zi8 hcalm1 hk)
      have hwp2 := den_wp hy.few hm hL hΓ ⟨hgp, hy.rd⟩ (some l) n y.body (.inr hy.calm.2) hy.draws.2 _ _ _ _ .normal st hR2 hd2
      refine Go.wpIn_mono hwp2 ?_
      rintro ex a3 w3 ⟨he, m3, hR3⟩
      cases ex <;> simp only [Ex.is] at he
      have hbz : (w.putObj l (.loop { rec with state := .busy })).heap[l]? = some (.loop { rec with state := .busy }) := World.putObj_heap_same (Array.getElem?_eq_some_iff.1 hl).1
      have hl3 : w3.heap[l]? = some (.loop { rec with state := .busy }) := hR3.pres.rest _ _ hbz (by intros; simp) (by intros; simp)
      have hrec : ({ rec with state := .ready, pending := none } : Loop) = rec := by
       cases rec; simp only at hst hpd; subst hst; subst hpd; rfl
      refine ⟨_, _, run_endRound none hl3, .bool true, rfl, mpk m3 pk m.B m.ban m.tk, ?_⟩
      have hw4 : w3.putObj l (.loop { ({ rec with state := .busy } : Loop) with state := if (none : Option Code).isNone then .ready else .done, pending := none }) = w3.putObj l (.loop rec) := by
       rw [← hrec]; rfl
      rw [hw4]
      have hp4 : Pres (Own (HS w tag lent m)) w (w3.putObj l (.loop rec)) := by
       have := hR3.pres.putBoth (r2 := rec) hbz
       rw [zmb, putObj_it hl] at this
       exact this
      have hR4 : RelM (HCx w tag lent m) K.nt st a3 (w3.putObj l (.loop rec)) m3 :=
       hR3.swap (w0 := w) (a2 := a3) (Sw.putObj hl3 (by intros; simp) (by intros; simp)) rfl (by rw [World.putObj_size]) (by
        have := hmk (o := .loop rec) hl3 hR3.defers
        rw [World.putObj_size] at this
        exact this) hp4 h0.mB.2.2.2.2.1 (.inl fun k v hk => zi8 hcalm hk)
      have := hOut (args := args) (v := .bool true) (x := .bool true) hR4 hvi hpk htag hroots hlo (.bool true)
      simpa only [Sim.ren] using this
     ·cases hr
    ·cases hr
   ·cases hr
  ·cases hr
 ·cases hr
def TableOK (P : Program) (L : Nat → Option TI) (T : Nat → Option Entry) : Prop := ∀ f e, T f = some e → match e with
 | .code a => f < 1000000000 ∧ FnOK P L f a
 | .hcode a => ∃ f', f = f' + 1000000000 ∧ FnOK P L f' a
 | .ycode y K => f = y.num + 1000000000 ∧ YOK P L y K
 | .law o => f < 1000000000 ∧ ∀ tag args lent r lent', o tag args lent = some (r, lent') → CallOK P f tag args lent r lent'
 | .hlaw o => ∃ f', f = f' + 1000000000 ∧ (∀ tag args lent r lent', o tag args lent = some (r, lent') → CallOKH P f' tag args lent r lent') ∧ ∀ tag y cs args lent, o tag (.yld y cs :: args) lent = none
theorem zea (hm : P.follows .mixedOrders = true) (hL : LOK P L) {T : Nat → Option Entry} (hT : TableOK P L T) : ∀ n, OracleOK P (callN loopω L T n)
 | 0 => ⟨fun f tag args lent r lent' h => by simp [callN] at h, fun f tag args lent r lent' h => by simp [callN] at h, fun f tag y cs args lent r lent' h => by simp [callN] at h, fun y tag args lent r lent' h => by simp [callN] at h⟩
 | n + 1 => by
  have void : ∀ {f tag : Nat} {ks : List AV} {as : List AV} {lent lent' : List (Option (List AV))} {r : AV}, CallOK P f tag (.mapd ks [] :: as) lent r lent' := fun w vs m pre => by
   have := pre.args
   cases this with
   | cons _ hv _ => cases hv
  refine ⟨fun f tag args lent r lent' h => ?_, fun f tag args lent r lent' h => ?_, fun f tag y cs args lent r lent' h => ?_, fun y tag args lent r lent' h => ?_⟩
  ·simp only [callN] at h
   cases he : T f with
   | none => rw [he] at h; cases h
   | some e =>
    have := hT f e he
    rw [he] at h
    cases e with
    | law o => exact this.2 tag args lent r lent' h
    | code a => exact runFn_ok hm hL (zea hm hL hT n) this.2 h
    | hcode a =>
     simp only at h
     split at h
     ·exact void
     ·cases h
    | ycode y K =>
     simp only at h
     split at h
     ·exact void
     ·cases h
    | hlaw o =>
     simp only at h
     split at h
     ·exact void
     ·cases h
  ·simp only [callN] at h
   cases he : T (f + 1000000000) with
   | none => rw [he] at h; cases h
   | some e =>
    have := hT _ e he
    rw [he] at h
    cases e with
    | law o => exact absurd this.1 (by omega)
    | code a => exact absurd this.1 (by omega)
    | hcode a =>
     obtain ⟨f', e1, e2⟩ := this
     have e3 : f' = f := by omega
     subst e3
     exact runFnH_ok hm hL (zea hm hL hT n) e2 h
    | ycode y K => cases h
    | hlaw o =>
     obtain ⟨f', e1, e2, _⟩ := this
     have e3 : f' = f := by omega
     subst e3
     exact e2 tag args lent r lent' h
  ·simp only [callN] at h
   cases he : T (f + 1000000000) with
   | none => rw [he] at h; cases h
   | some e =>
    have := hT _ e he
    rw [he] at h
    cases e with
    | law o => exact absurd this.1 (by omega)
    | code a => exact absurd this.1 (by omega)
    | hcode a =>
     obtain ⟨f', e1, e2⟩ := this
     have e3 : f' = f := by omega
     subst e3
     exact e2.enter
    | ycode y K => cases h
    | hlaw o =>
     obtain ⟨f', e1, _, e2⟩ := this
     simp only [e2 tag y cs args lent] at h
     cases h
  ·simp only [callN] at h
   cases he : T (y.num + 1000000000) with
   | none => rw [he] at h; cases h
   | some e =>
    have := hT _ e he
    rw [he] at h
    cases e with
    | law o => exact absurd this.1 (by omega)
    | code a => exact absurd this.1 (by omega)
    | hcode a => cases h
    | hlaw o => cases h
    | ycode y0 K =>
     simp only at h
     split at h
     ·rename_i e
      subst e
      exact runFnY_ok hm hL (zea hm hL hT n) this.2 h
     ·cases h
theorem callω_ok (hm : P.follows .mixedOrders = true) (hL : LOK P L) {T : Nat → Option Entry} (hT : TableOK P L T) : OracleOK P (callω L T) := by
 refine ⟨fun f tag args lent r lent' h => ?_, fun f tag args lent r lent' h => ?_, fun f tag y cs args lent r lent' h => ?_, fun y tag args lent r lent' h => ?_⟩ <;> unfold callω at h <;> split at h
 ·exact (zea hm hL hT _).one f tag args lent r lent' h
 ·cases h
 ·exact (zea hm hL hT _).all f tag args lent r lent' h
 ·cases h
 ·exact (zea hm hL hT _).ent f tag y cs args lent r lent' h
 ·cases h
 ·exact (zea hm hL hT _).rnd y tag args lent r lent' h
 ·cases h
end Go.Sim
end
section
namespace Go.Sim
open Go
def zipShp (Q : Nat → List AV → Prop) : List (Nat × Nat) → List AV → Prop
 | [], cs => cs = []
 | f :: fs, cs => ∃ a b, cs = a ++ b ∧ Q f.2 a ∧ zipShp Q fs b
def Shp (L : Nat → Option TI) : Nat → Nat → List AV → Prop
 | 0, _, _ => False
 | n + 1, t, cs => match L t with
  | none => False
  | some i => match i.desc with
   | .bool => ∃ b, cs = [.bool b]
   | .int k => ∃ x, cs = [.int k x] ∧ (Lit.int k x).wf = true
   | .str => ∃ s, cs = [.str s] ∧ s.size ≤ maxLen
   | .slice e => match L e with
    | none => False
    | some ie => ∃ parts : List (List AV), cs = [.isl ie.size parts.length parts.flatten] ∧ parts.length ≤ maxLen ∧ ∀ p ∈ parts, Shp L n e p
   | .arr m e => ∃ parts : List (List AV), cs = parts.flatten ∧ parts.length = m ∧ ∀ p ∈ parts, Shp L n e p
   | .strct fs => zipShp (Shp L n) fs cs
   | _ => False
def tiles (L : Nat → Option TI) (sz : Nat) : Nat → List (Nat × Nat) → Bool
 | o, [] => o == sz
 | o, (o', t) :: fs => o' == o && match L t with
  | some i => tiles L sz (o + i.size) fs
  | none => false
def okShape (L : Nat → Option TI) : Nat → Nat → Bool
 | 0, _ => false
 | n + 1, t => match L t with
  | none => false
  | some i => match i.desc with
   | .bool | .int _ | .str => true
   | .slice e => match L e with
    | some ie => decide (0 < ie.size) && okShape L n e
    | none => false
   | .arr m e => match L e with
    | some ie => i.size == m * ie.size && okShape L n e
    | none => false
   | .strct fs => tiles L i.size 0 fs && fs.all fun f => okShape L n f.2
   | _ => false
section
variable {P : Program} {L : Nat → Option TI} {s : S}
theorem TIOK.cellsOf {t : Nat} {i : TI} (h : TIOK P t i) : P.cellsOf t = i.size := by
 obtain ⟨info, d, z, h1, h2, h3, h4, _⟩ := h
 simp [Program.cellsOf, h1, h4]
theorem chunks {Q : List AV → Prop} {z : Nat} : ∀ (m : Nat) (vs : List Value), vs.length = m * z → (∀ i, i < m → ∃ c, VRs s true c ((vs.drop (i * z)).take z) ∧ Q c) →
  ∃ parts : List (List AV), parts.length = m ∧ VRs s true parts.flatten vs ∧ ∀ p ∈ parts, Q p
 | 0, vs, hl, _ => by
  have : vs = [] := List.eq_nil_of_length_eq_zero (by simpa using hl)
  subst this
  exact ⟨[], rfl, .nil _, by simp⟩
 | m + 1, vs, hl, h => by
  obtain ⟨c, hc, hq⟩ := h 0 (by omega)
  rw [Nat.add_mul, Nat.one_mul] at hl
  obtain ⟨parts, h1, h2, h3⟩ := chunks (Q := Q) (z := z) m (vs.drop z) (by rw [List.length_drop]; omega) fun i hi => by
   obtain ⟨c, hc, hq⟩ := h (i + 1) (by omega)
   refine ⟨c, ?_, hq⟩
   rw [List.drop_drop, show z + i * z = (i + 1) * z from by rw [Nat.add_mul]; omega]
   exact hc
  refine ⟨c :: parts, by simp [h1], ?_, by simpa using ⟨hq, h3⟩⟩
  have := hc.append h2
  simpa using this
theorem fields {Q : Nat → List AV → Prop} (hL : LOK P L) (vs : List Value) : ∀ (fs : List (Nat × Nat)) (o : Nat), tiles L vs.length o fs = true → o ≤ vs.length →
  (∀ f ∈ fs, ∃ c, VRs s true c ((vs.drop f.1).take (P.cellsOf f.2)) ∧ Q f.2 c) → ∃ cs, VRs s true cs (vs.drop o) ∧ zipShp Q fs cs
 | [], o, ht, ho, _ => by
  simp only [tiles, beq_iff_eq] at ht
  subst ht
  rw [List.drop_length]
  exact ⟨[], .nil _, rfl⟩
 | (o', t) :: fs, o, ht, ho, h => by
  simp only [tiles, qO5, beq_iff_eq] at ht
  obtain ⟨rfl, ht⟩ := ht
  cases hl : L t with
  | none => simp [hl] at ht
  | some i =>
   simp only [hl] at ht
   obtain ⟨c, hc, hq⟩ := h (o', t) (by simp)
   simp only [(hL t i hl).cellsOf] at hc
   have key : ∀ (gs : List (Nat × Nat)) (o : Nat), tiles L vs.length o gs = true → o ≤ vs.length := by
    intro gs
    induction gs with
    | nil => intro o h; simp only [tiles, beq_iff_eq] at h; omega
    | cons g gs ih =>
     intro o h
     simp only [tiles, qO5, beq_iff_eq] at h
     cases hg : L g.2 with
     | none => simp [hg] at h
     | some j => simp only [hg] at h; have := ih _ h.2; omega
   obtain ⟨cs, h1, h2⟩ := fields hL vs fs (o' + i.size) ht (key _ _ ht) fun f hf => h f (by simp [hf])
   refine ⟨c ++ cs, ?_, ⟨c, cs, rfl, hq, h2⟩⟩
   have := hc.append h1
   rwa [show (vs.drop o').take i.size ++ vs.drop (o' + i.size) = vs.drop o' from by rw [← List.drop_drop, List.take_append_drop]] at this
theorem flat_get {α : Type} {z : Nat} : ∀ (l : List (List α)), (∀ p ∈ l, p.length = z) → l.flatten.length = l.length * z ∧
  ∀ (k : Nat) (v : α), l.flatten[k]? = some v → ∃ i j p, l[i]? = some p ∧ j < z ∧ p[j]? = some v ∧ k = i * z + j
 | [], _ => by simp
 | p :: l, h => by
  obtain ⟨h1, h2⟩ := flat_get l fun q hq => h q (by simp [hq])
  have hp := h p (by simp)
  refine ⟨by simp [h1, hp, Nat.add_mul]; omega, fun k v hk => ?_⟩
  simp only [List.flatten_cons] at hk
  by_cases hlt : k < p.length
  ·rw [List.getElem?_append_left hlt] at hk
   exact ⟨0, k, p, rfl, by omega, hk, by simp⟩
  ·rw [List.getElem?_append_right (by omega)] at hk
   obtain ⟨i, j, q, a1, a2, a3, a4⟩ := h2 _ v hk
   exact ⟨i + 1, j, q, by simpa using a1, a2, a3, by rw [Nat.add_mul]; omega⟩
theorem zjd {H : Type} {enc : TypeId × Value → H} {base : Nat} {spare : Nat → Bool} {held : Bool} (hL : LOK P L) (hO : ∀ b o, ¬ Held s b o) :
  ∀ (n t fuel : Nat) (vs : List Value) (x : DataW H × List MemPlace), okShape L n t = true → DataW.trod enc P s.w base spare held fuel t vs = some x →
  ∃ cs, VRs s true cs vs ∧ Shp L n t cs
 | 0, t, fuel, vs, x, ho, _ => by simp [okShape] at ho
 | n + 1, t, fuel, vs, x, ho, h => by
  have ih := zjd (base := base) (spare := spare) (held := held) (enc := enc) hL hO n
  simp only [okShape] at ho
  cases hl : L t with
  | none => simp [hl] at ho
  | some i =>
   have hi := hL t i hl
   obtain ⟨d, hd, hu, _⟩ := hi.run_und
   have hc := hi.cellsOf
   simp only [hl] at ho
   simp only [Shp, hl]
   cases hds : i.desc with
   | bool =>
    rw [hds] at hd
    cases d <;> simp only [TDOK] at hd
    obtain ⟨b, rfl, _⟩ := DataW.trod_bool hu h
    exact ⟨[.bool b], .cons (fun _ => ⟨rfl, rfl⟩) (.bool b) (.nil _), b, rfl⟩
   | int k =>
    rw [hds] at hd
    cases d <;> simp only [TDOK] at hd
    subst hd
    obtain ⟨b, rfl, _, hw⟩ := DataW.trod_int hu h
    exact ⟨[.int k b], .cons (fun _ => ⟨rfl, rfl⟩) (.int k b) (.nil _), b, rfl, hw⟩
   | str =>
    rw [hds] at hd
    cases d <;> simp only [TDOK] at hd
    obtain ⟨b, rfl, _, hw⟩ := DataW.trod_string hu h
    exact ⟨[.str b], .cons (fun _ => ⟨rfl, rfl⟩) (.str b) (.nil _), b, rfl, hw⟩
   | slice e =>
    rw [hds] at hd
    cases d <;> simp only [TDOK] at hd
    subst hd
    simp only [hds] at ho
    cases he : L e with
    | none => simp [he] at ho
    | some ie =>
     simp only [he, qO5, decide_eq_true_eq] at ho
     have hce := (hL e ie he).cellsOf
     simp only [he]
     rcases Deep.open_slice hu h with ⟨rfl, _⟩ | ⟨a, len, cap, m, n', D, Pl, rfl, hb, hlc, hcm, hm, _, hel⟩
     ·exact ⟨[.isl ie.size 0 []], .cons (fun _ => ⟨rfl, rfl⟩) .islnil (.nil _), [], rfl, by simp, by simp⟩
     ·have hlm : len ≤ m := by rw [hm]; split <;> omega
      have hpart : ∀ i, i < len → ∃ q : List AV × List Value, VRs s true q.1 q.2 ∧ Shp L n e q.1 ∧ q.2.length = ie.size ∧ ∀ j, j < ie.size → s.w.cell? (a.add (i * ie.size + j)) = q.2[j]? := by
       intro i hi
       obtain ⟨cs', g1, g2⟩ := hel i (by omega)
       obtain ⟨c, k1, k2⟩ := ih e _ _ _ ho.2 g2
       obtain ⟨_, g3, g4⟩ := World.cells?_some g1
       rw [hce] at g3 g4
       exact ⟨(c, cs'), k1, k2, g3, fun j hj => by rw [← Deep.add_add]; exact g4 j hj⟩
      obtain ⟨f, hf⟩ := Deep.choose_lt hpart
      have hparts : VRs s true ((List.range len).map fun i => (f i).1).flatten ((List.range len).map fun i => (f i).2).flatten := by
       have key : ∀ k, k ≤ len → VRs s true ((List.range k).map fun i => (f i).1).flatten ((List.range k).map fun i => (f i).2).flatten := by
        intro k
        induction k with
        | zero => intro _; exact .nil _
        | succ k ihk =>
         intro hk
         rw [List.range_succ]
         simp only [List.map_append, List.map_cons, List.map_nil, List.flatten_append, List.flatten_cons, List.flatten_nil, List.append_nil]
         exact (ihk (by omega)).append (hf k (by omega)).1
       exact key len (Nat.le_refl _)
      obtain ⟨hfl, hfg⟩ := flat_get (z := ie.size) ((List.range len).map fun i => (f i).2) (by
       intro p hp
       obtain ⟨i, hi, rfl⟩ := List.mem_map.1 hp
       exact (hf i (List.mem_range.1 hi)).2.2.1)
      refine ⟨[.isl ie.size len ((List.range len).map fun i => (f i).1).flatten], .cons (fun _ => ⟨rfl, rfl⟩) ?_ (.nil _), (List.range len).map fun i => (f i).1, by simp, by simp; omega, ?_⟩
      ·by_cases hz : len = 0
       ·subst hz; exact .islnil
       ·have hsp : a.spot = none := by
         have := (hf 0 (by omega)).2.2.2 0 ho.1
         rw [Nat.zero_mul, Nat.zero_add] at this
         have h0 : a.add 0 = a := by simp [Addr.add]
         rw [h0] at this
         have hlt : 0 < (f 0).2.length := by rw [(hf 0 (by omega)).2.2.1]; exact ho.1
         rw [List.getElem?_eq_getElem hlt] at this
         unfold World.cell? at this
         split at this
         ·split at this
          ·cases this
          ·rename_i h; cases hs : a.spot <;> simp_all
         ·cases this
        refine .isl hsp hlc ?_ (fun k v hk => ⟨?_, hO _ _⟩) hparts
        ·rw [hparts.length, hfl]; simp
        ·obtain ⟨i, j, p, a1, a2, a3, rfl⟩ := hfg k v hk
         simp only [List.getElem?_map, Option.map_eq_some_iff] at a1
         obtain ⟨i', hi', rfl⟩ := a1
         have hi2 := List.getElem?_eq_some_iff.1 hi'
         obtain ⟨hlt, hi3⟩ := hi2
         simp at hi3 hlt
         subst hi3
         rw [← a3, ← (hf i hlt).2.2.2 j a2, zd7 hsp]
      ·intro p hp
       obtain ⟨i, hi, rfl⟩ := List.mem_map.1 hp
       exact (hf i (List.mem_range.1 hi)).2.1
   | arr m e =>
    rw [hds] at hd
    cases d <;> simp only [TDOK] at hd
    obtain ⟨rfl, rfl⟩ := hd
    simp only [hds] at ho
    cases he : L e with
    | none => simp [he] at ho
    | some ie =>
     simp only [he, qO5, beq_iff_eq] at ho
     have hce := (hL e ie he).cellsOf
     obtain ⟨xs, k, _, _, hlen, hxl, hx⟩ := DataW.trod_array hu h
     obtain ⟨parts, g1, g2, g3⟩ := chunks (s := s) (Q := Shp L n e) (z := ie.size) m vs (by rw [hlen, hc, ho.1]) fun i hi => by
      have := hx i hi
      have hlt : i < xs.length := by omega
      rw [List.getElem?_eq_getElem hlt, hce] at this
      exact ih e _ _ _ ho.2 this
     exact ⟨_, g2, parts, rfl, g1, g3⟩
   | strct fs =>
    rw [hds] at hd
    cases d <;> simp only [TDOK] at hd
    rename_i fs'
    obtain ⟨hfs, _⟩ := hd
    simp only [hds, qO5] at ho
    obtain ⟨xs, k, _, _, hlen, hxl, hx⟩ := DataW.trod_struct hu h
    have := fields (s := s) (Q := Shp L n) hL vs fs 0 (by rw [hlen, hc]; exact ho.1) (by omega) fun f hf => by
     obtain ⟨j, hj⟩ := List.mem_iff_getElem?.1 hf
     rw [← hfs] at hj
     simp only [List.getElem?_map, Option.map_eq_some_iff, Array.getElem?_toList] at hj
     obtain ⟨fd, hj, rfl⟩ := hj
     have hlt : j < xs.length := by rw [hxl]; exact (Array.getElem?_eq_some_iff.1 hj).1
     have h2 := hx j fd hj
     rw [List.getElem?_eq_getElem hlt] at h2
     exact ih fd.type _ _ _ (by
      have := List.all_eq_true.1 ho.2 _ hf
      exact this) h2
    simpa using this
   | ptr e => simp [hds] at ho
   | func => simp [hds] at ho
   | map _ _ => simp [hds] at ho
   | iface => simp [hds] at ho
   | opq => simp [hds] at ho
   | other => simp [hds] at ho
def ShpV (L : Nat → Option TI) (n t : Nat) (v : AV) : Prop :=
 match L t with
 | some i => if i.isAgg then ∃ cs, v = .agg cs ∧ Shp L n t cs else Shp L n t [v]
 | none => False
def ShpAll (L : Nat → Option TI) (n : Nat) : List Nat → List AV → Prop
 | [], vs => vs = []
 | t :: ts, vs => ∃ v vs', vs = v :: vs' ∧ ShpV L n t v ∧ ShpAll L n ts vs'
theorem zpf {w : World} {r : Reach} {base t : Nat} {i : TI} {v : Value} (hi : TIOK P t i) (ha : i.isAgg = false) (h : Value.okWide P w r base t v) : v.cells.toList = [v] := by
 obtain ⟨d, hd, hu, _⟩ := hi.run_und
 simp only [Value.okWide, hu] at h
 unfold TI.isAgg at ha
 cases hds : i.desc <;> rw [hds] at hd <;> cases d <;> simp only [TDOK] at hd <;> simp only [hds] at ha <;>
  first
   | (cases ha; done)
   | (cases v <;> first | rfl | (simp only [Cell.okWide, Cell.ok, hu] at h; done))
theorem shp_value {H : Type} {enc : TypeId × Value → H} {base b0 : Nat} {r : Reach} {spare : Nat → Bool} {held : Bool} (hL : LOK P L) (hO : ∀ b o, ¬ Held s b o) {n t : Nat} {v : Value} {d : DataW H} {ps : List MemPlace}
  (ho : okShape L n t = true) (hw : Value.okWide P s.w r b0 t v) (h : DataW.Trod enc P s.w base spare held t v d ps) : ∃ c, VR s c v ∧ ShpV L n t c := by
 obtain ⟨fuel, h⟩ := h
 obtain ⟨cs, h1, h2⟩ := zjd hL hO n t fuel _ _ ho h
 unfold ShpV
 cases hl : L t with
 | none => cases n <;> simp [okShape, hl] at ho
 | some i =>
  have hi := hL t i hl
  simp only
  cases ha : i.isAgg with
  | false =>
   rw [zpf hi ha hw] at h1
   simp only [if_false, Bool.false_eq_true]
   cases h1 with
   | cons g1 g2 g3 => cases g3; exact ⟨_, g2, h2⟩
  | true =>
   simp only [if_true]
   obtain ⟨d', hd, hu, _⟩ := hi.run_und
   have : ∃ cs : Array Value, v = .agg cs := by
    simp only [Value.okWide, hu] at hw
    unfold TI.isAgg at ha
    cases hds : i.desc <;> rw [hds] at hd <;> cases d' <;> simp only [TDOK] at hd <;> simp only [hds] at ha <;>
     first
      | (cases ha; done)
      | (obtain ⟨cs, rfl, _⟩ := hw; exact ⟨cs, rfl⟩)
   obtain ⟨cs', rfl⟩ := this
   simp only [Value.cells] at h1
   exact ⟨.agg cs, by simpa using VR.agg h1, cs, rfl, h2⟩
theorem shp_all {H : Type} {enc : TypeId × Value → H} {base b0 : Nat} {r : Reach} {spare : Nat → Bool} {held : Bool} (hL : LOK P L) (hO : ∀ b o, ¬ Held s b o) {n : Nat} : ∀ (ts : List Nat) (vs : List Value) (ds : List (DataW H)) (ps : List MemPlace),
  ts.all (okShape L n) = true → (∀ (j : Nat) t v, ts[j]? = some t → vs[j]? = some v → Value.okWide P s.w r b0 t v) → DataW.TrodAll enc P s.w base spare held ts vs ds ps →
  ∃ cs, VRs s false cs vs ∧ ShpAll L n ts cs
 | [], [], [], ps, _, _, _ => ⟨[], .nil _, rfl⟩
 | t :: ts, v :: vs, d :: ds, ps, ho, hw, h => by
  obtain ⟨p, q, h1, h2, rfl⟩ := h
  simp only [List.all_cons, qO5] at ho
  obtain ⟨c, g1, g2⟩ := shp_value hL hO ho.1 (hw 0 t v rfl rfl) h1
  obtain ⟨cs, k1, k2⟩ := shp_all hL hO ts vs ds q ho.2 (fun j t v a b => hw (j + 1) t v (by simpa using a) (by simpa using b)) h2
  exact ⟨c :: cs, .cons (fun e => by cases e) g1 k1, c, cs, rfl, g2, k2⟩
 | [], _ :: _, _, _, _, _, h => h.elim
 | [], [], _ :: _, _, _, _, h => h.elim
 | _ :: _, [], _, _, _, _, h => h.elim
 | _ :: _, _ :: _, [], _, _, _, h => h.elim
theorem zgp {n : Nat} : ∀ (ts : List Nat) (cs : List AV), ShpAll L n ts cs → cs.length = ts.length
 | [], cs, h => by simp only [ShpAll] at h; subst h; rfl
 | t :: ts, cs, h => by
  obtain ⟨v, vs, rfl, _, h⟩ := h
  simp [zgp ts vs h]
theorem zbw (tag : Nat) : ∀ (k n : Nat), lentHeap tag k (List.replicate n none) = []
 | k, 0 => rfl
 | k, n + 1 => by simp [List.replicate_succ, lentHeap, zbw tag (k + 1) n]
theorem Pres.below {A : Nat → Nat → Prop} {w w' : World} (h : Pres A w w') (hA : ∀ b o, ¬ A b o) : RowKit.Below w.heap.size w w' := by
 refine ⟨h.os, h.tape, h.output, h.size, fun k hk => ?_⟩
 have hx : w.heap[k]? = some w.heap[k] := Array.getElem?_eq_getElem hk
 cases hob : w.heap[k] with
 | cells c e fr =>
  rw [hob] at hx
  obtain ⟨c', h1, h2, h3⟩ := h.cells k c e fr hx
  have : c' = c := Array.ext_getElem? fun o => h3 o (hA k o)
  rw [h1, hx, this]
 | _ =>
  rw [hob] at hx
  rw [hx, h.other k _ hx (by intros; simp) (hA k 0)]
theorem law_calls (hm : P.follows .mixedOrders = true) (hL : LOK P L) {T : Nat → Option Entry} (hT : TableOK P L T) {f : Nat} {fa : AFn} (hf : T f = some (.code fa)) {w : World} {cs : List AV} {vs : List Value} {n : Nat} (hn : cs.length = n) {lent : List (Option (List AV))} {gl : Nat → Option Value} (hG : GlobP P gl) (hS : GlobS ⟨w, [], ⟨fun _ => (0, 0), fun _ => 0, w.heap.size, fun _ _ => False, gl, fun _ _ _ => False⟩, 0, 1⟩)
  (hv : VRs ⟨w, [], ⟨fun _ => (0, 0), fun _ => 0, w.heap.size, fun _ _ => False, gl, fun _ _ _ => False⟩, 0, 1⟩ false cs vs) (hr : callω L T f 0 cs (List.replicate n none) = some (.bool true, lent)) :
  Calls P f vs.toArray w fun e w' => e = .returned (.bool true) ∧ RowKit.Below w.heap.size w w' := by
 have hok := (callω_ok hm hL hT).one _ _ _ _ _ _ hr w vs ⟨fun _ => (0, 0), fun _ => 0, w.heap.size, fun _ _ => False, gl, fun _ _ _ => False⟩ ⟨⟨rfl, fun _ _ h => h.elim⟩, by rw [zbw]; exact hS, by rw [zbw]; exact hv, (fun k b hk => by rw [zbw] at hk; cases hk), (fun k j b b' _ hk => by rw [zbw] at hk; cases hk)⟩ hG
 have hfn := (show f < 1000000000 ∧ FnOK P L f fa from hT f _ hf).2
 have he := hfn.enter vs.toArray w
 rcases hok with ⟨_, h⟩ | ⟨x, w', h, _⟩ | ⟨row, h, _⟩
 ·refine h.mono ?_
  rintro e w' ⟨x, rfl, hp⟩
  obtain ⟨rs, hres, _⟩ := hp.res
  refine ⟨?_, hp.pres.below fun b o ho => ?_⟩
  ·cases hres with
   | one h1 => cases h1 with | plain h2 => simp only [PV] at h2; rw [h2]
  ·obtain ⟨k, blk, hk, _⟩ := ho
   simp only [zbw] at hk
   cases hk
 ·rw [he] at h; cases h
 ·rw [he] at h; cases h
end
section
open Go.RowKit Go.ChangeShapes Go.WideShapes
theorem zk0 {H : Type} {enc : TypeId × Value → H} {P : Program} {f : Func} {s : ChangeSpec} {apart fresh handsOn again : Bool} {W W' : World} {args : Array Value} {v : Value} {ds gs : List (DataW H)} {before pa pv : List MemPlace}
  (hW : DataW.Whole enc P f.params.toList s.vars apart W args.toList ds gs before)
  (hres : ∀ (b : Nat) (sp : Nat → Bool) (hd : Bool), DataW.TrodAll enc P W' b sp hd f.resultTypes.toList (v.resultList f.resultTypes.size) (s.fn H (ds ++ gs)).results [])
  (hargs : ∀ sp : Nat → Bool, (∀ p ∈ before, sp p.block = true) → DataW.TrodAll enc P W' 0 sp true f.params.toList args.toList (s.fn H (ds ++ gs)).args pa)
  (hvars : ∀ sp : Nat → Bool, (∀ p ∈ before, sp p.block = true) → DataW.TrodVars enc P W' sp s.vars (s.fn H (ds ++ gs)).vars pv)
  (hps : before = pa ++ pv) (hb : Below W.heap.size W W')
  (hok : ∀ (j : Nat) (t : TypeId) (r : Value), f.resultTypes[j]? = some t → (v.resultList f.resultTypes.size)[j]? = some r → Value.okWide P W' .any 0 t r) :
  s.post enc P f apart fresh handsOn again W args v W' := by
 have hlt : ∀ p ∈ before, p.block < W.heap.size := fun p hp => hW.lt p hp
 have hold : ∀ p ∈ before, (fun b => decide (b < W.heap.size)) p.block = true := fun p hp => by simpa using hlt p hp
 refine ⟨ds, gs, before, [], pa, pv, hW, hres _ _ _, hargs _ hold, hvars _ hold, World.keptBut_mono (fun p hp => ⟨hp, ?_⟩) (hb.frame (· ∈ before)), fun _ => ?_⟩
 ·rw [hps, List.mem_append] at hp
  exact Or.inr hp
 ·obtain ⟨_, _, _, _, _, hz, hn⟩ := hW
  refine ⟨hok, _, _, ([] ++ pa) ++ pv, ⟨[] ++ pa, pv, trodAll_append (hargs _ (fun _ _ => rfl)) (hres _ _ _), hvars _ (fun _ _ => rfl), rfl, ?_, ?_⟩, ?_⟩
  ·intro b off hp
   have hin : MemPlace.cell b off ∈ before := by rw [hps]; simpa using hp
   rw [hb.frozen (hlt _ hin)]
   exact hz b off hin
  ·intro ha
   have := hn ha
   rw [hps] at this
   simpa using this
  ·intro p hp _
   rw [hps]
   simpa using hp
theorem zgy {H : Type} {enc : TypeId × Value → H} {P : Program} (hl : laidOutB P = true) {W W' : World} (hb : Below W.heap.size W W') {sp : Nat → Bool} : ∀ (ts : List Nat) (vs : List Value) (ds : List (DataW H)) (ps : List MemPlace),
  (∀ t ∈ ts, P.readableRec t = true ∧ t < P.types.size) → DataW.TrodAll enc P W 0 (fun _ => true) true ts vs ds ps → (∀ p ∈ ps, p.block < W.heap.size) → (∀ p ∈ ps, sp p.block = true) →
  DataW.TrodAll enc P W' 0 sp true ts vs ds ps
 | [], [], [], ps, _, h, _, _ => h
 | t :: ts, v :: vs, d :: ds, ps, ht, h, hlt, hsp => by
  obtain ⟨p, q, h1, h2, rfl⟩ := h
  refine ⟨p, q, ?_, zgy hl hb ts vs ds q (fun t h => ht t (by simp [h])) h2 (fun x hx => hlt x (by simp [hx])) (fun x hx => hsp x (by simp [hx])), rfl⟩
  obtain ⟨h3, h4⟩ := ht t (by simp)
  exact WideElems.Trod_stays hl h3 h4 h1 (fun x hx => hb.same (hlt x (by simp [hx]))) (fun x hx => hsp x (by simp [hx]))
 | [], _ :: _, _, _, _, h, _, _ => h.elim
 | [], [], _ :: _, _, _, h, _, _ => h.elim
 | _ :: _, [], _, _, _, h, _, _ => h.elim
 | _ :: _, _ :: _, [], _, _, h, _, _ => h.elim
theorem zij {H : Type} {enc : TypeId × Value → H} {P : Program} {W : World} {base : Nat} {sp : Nat → Bool} {hd : Bool} : ∀ (ts : List Nat) (vs : List Value) (ds : List (DataW H)) (ps : List MemPlace),
  DataW.TrodAll enc P W base sp hd ts vs ds ps → ds.length = ts.length
 | [], [], [], ps, _ => rfl
 | t :: ts, v :: vs, d :: ds, ps, h => by
  obtain ⟨p, q, h1, h2, rfl⟩ := h
  simp [zij ts vs ds q h2]
 | [], _ :: _, _, _, h => h.elim
 | [], [], _ :: _, _, h => h.elim
 | _ :: _, [], _, _, h => h.elim
 | _ :: _, _ :: _, [], _, h => h.elim
end
end Go.Sim
end
section
namespace Go.Sim
open Go
def tdB (P : Program) : TD → TypeDesc → Bool
 | .bool, .bool => true
 | .int k, .int k' => decide (k = k')
 | .str, .string => true
 | .ptr e, .pointer e' => e == e'
 | .slice e, .slice e' => e == e'
 | .arr n e, .array n' e' => n == n' && e == e'
 | .strct fs, .struct fs' => fs'.toList.map (fun f => (f.offset, f.type)) == fs && fs'.toList.all (fun f => (P.info? f.type).isSome)
 | .func, .func _ _ _ => true
 | .map k e, .map k' e' => k == k' && e == e'
 | .iface, .interface _ => true
 | .opq, .struct _ => true
 | .other, .interface _ => true
 | .other, .map _ _ => true
 | .other, .tuple _ => true
 | _, _ => false
theorem tdB_ok {P : Program} {d : TD} {d' : TypeDesc} (h : tdB P d d' = true) : TDOK P d d' := by
 cases d <;> cases d' <;> simp_all [tdB, TDOK]
def tiB (P : Program) (p : Nat × TI) : Bool :=
 match P.info? p.1, P.underlying p.1 with
 | some info, some d => tdB P p.2.desc d && (info.size == p.2.size && (info.bytes == p.2.bytes && match info.zero with
  | some z => match ofCells z.cells.toList with
   | some cs => samePs cs p.2.zero && (eqOkD P p.1 p.2.desc d && p.2.isAgg == isAggV z)
   | none => false
  | none => false))
 | _, _ => false
theorem tiB_ok {P : Program} {t : Nat} {i : TI} (h : tiB P (t, i) = true) : TIOK P t i := by
 unfold tiB at h
 split at h
 ·rename_i info d h1 h2
  simp only [qO5, beq_iff_eq] at h
  obtain ⟨h3, h4, h5, h6⟩ := h
  split at h6
  ·rename_i z hz
   split at h6
   ·rename_i cs hc
    simp only [qO5, beq_iff_eq] at h6
    exact ⟨info, d, z, h1, h2, tdB_ok h3, h4, h5, hz, by rw [hc, zit h6.1], h6.2.1, h6.2.2⟩
   ·cases h6
  ·cases h6
 ·cases h
theorem zdf {α : Type} {k : Nat} {v : α} : ∀ {l : List (Nat × α)}, aget k l = some v → (k, v) ∈ l
 | (j, u) :: l, h => by
  simp only [aget] at h
  split at h
  ·rename_i e; subst e; simp only [qO1] at h; subst h; simp
  ·exact List.mem_cons_of_mem _ (zdf h)
theorem lok {P : Program} {Ls : List (Nat × TI)} (h : Ls.all (tiB P) = true) : LOK P (fun t => aget t Ls) := fun t i hi => tiB_ok (List.all_eq_true.1 h _ (zdf hi))
noncomputable def mkA (fn : Func) (cross : List Nat) (heads : List (Nat × List Nat × List Nat)) (own frz : List Nat) (reads : List (Nat × List Nat)) (stores : List (Nat × Nat)) (ro hp : List Nat) (ys : List (Nat × YInfo) := []) (win : List Nat := []) (hide : List (Nat × Nat × List (Nat × List Nat)) := []) (mat : List (Nat × Nat × Nat × Nat) := []) : AFn :=
 {body := fn.body.getD .skip, np := fn.params.size + fn.nfree, results := fn.results.toList, ann := { nt := fn.ntmps, cross, heads, own, reads, stores, ro, hp, ys, win, hide, mat }, frz }
def fnB (L : Nat → Option TI) (own : List Nat) (reads : List (Nat × List Nat)) (stores : List (Nat × Nat)) (ro hp : List Nat) (fn : Func) : Bool := fn.body.isSome && (!(fn.name == "runtime.NumGoroutine") && (decide (fn.params.size + fn.nfree ≤ fn.ntmps ∧ fn.ntmps ≤ 500000) && drawsOk L { nt := fn.ntmps, cross := [], heads := [], own, reads, stores, ro, hp } (fn.body.getD .skip)))
theorem zii {L : Nat → Option TI} {K K' : Ann} (h : K'.own = K.own) (h2 : K'.reads = K.reads) (h3 : K'.stores = K.stores) (h4 : K'.ro = K.ro) (h5 : K'.hp = K.hp) : ∀ c, drawsOk L K c = drawsOk L K' c := by
 have hs : ∀ a, K.storeAt a = K'.storeAt a := fun a => by cases a <;> simp only [Ann.storeAt, h3]
 have hm : ∀ d op, fpOf L K d op = fpOf L K' d op := fun d op => by cases op <;> simp only [fpOf, h, h2, h4, h5, hs]
 have ht : ∀ ops x y, turnOk L K ops x y = turnOk L K' ops x y := fun ops x y => by simp only [turnOk, hm]
 intro c
 induction c <;> simp_all [drawsOk, drawOk]
def rdB (P : Program) (p : Nat × List Nat) : Bool := Nat.blt p.1 1000000000 || errG P (p.1 - 1000000000)
theorem rdB_ok {P : Program} {l : List (Nat × List Nat)} (h : l.all (rdB P) = true) (g : Nat) (hg : (aget (1000000000 + g) l).isSome = true) : errG P g = true := by
 obtain ⟨v, hv⟩ := Option.isSome_iff_exists.1 hg
 have := List.all_eq_true.1 h _ (zdf hv)
 simp only [rdB, Bool.or_eq_true] at this
 rcases this with h | h
 ·rw [Nat.blt_eq] at h; omega
 ·rwa [show 1000000000 + g - 1000000000 = g from by omega] at h
theorem mkA_ok {P : Program} {L : Nat → Option TI} {f : Nat} {fn : Func} {cross : List Nat} {heads : List (Nat × List Nat × List Nat)} {own frz : List Nat} {reads : List (Nat × List Nat)} {stores : List (Nat × Nat)} {ro hp : List Nat} {ys : List (Nat × YInfo)} {win : List Nat} {hide : List (Nat × Nat × List (Nat × List Nat))} {mat : List (Nat × Nat × Nat × Nat)} (hf : P.funcs[f]? = some fn) (hb : fnB L own reads stores ro hp fn = true) (hrd : reads.all (rdB P) = true := by kernel_rfl) : FnOK P L f (mkA fn cross heads own frz reads stores ro hp ys win hide mat) := by
 simp only [fnB, qO5, decide_eq_true_eq, Bool.not_eq_true'] at hb
 obtain ⟨h1, h2, ⟨h4, h4'⟩, h6⟩ := hb
 obtain ⟨c, hc⟩ := Option.isSome_iff_exists.1 h1
 refine ⟨?_, ⟨fn, hf, by simp [mkA, hc], rfl, rfl⟩, fun args w => ?_, h4, h4', rdB_ok hrd⟩
 ·exact (zii (K := (mkA fn cross heads own frz reads stores ro hp ys win hide mat).ann) (K' := { nt := fn.ntmps, cross := [], heads := [], own, reads, stores, ro, hp }) rfl rfl rfl rfl rfl (fn.body.getD .skip)).trans h6
 ·have h5 : fn.name ≠ "runtime.NumGoroutine" := by simpa using h2
  simp [callFunc, hf, h5, hc, mark]
def findR (r : Nat) : Code → Option (List Nat × Code × Code)
 | .seq a b => (findR r a).or (findR r b)
 | .cond _ a b => (findR r a).or (findR r b)
 | .block _ a => findR r a
 | .loop a => findR r a
 | .rangeFunc _ ps a b => if Nat.beq (firstRegion a) r then some (ps.toList, a, b) else none
 | _ => none
theorem zov {L : Nat → Option TI} {K : Ann} {r : Nat} {x : List Nat × Code × Code} : ∀ {c : Code}, findR r c = some x → drawsOk L K c = true → drawsOk L K x.2.1 = true ∧ drawsOk L K x.2.2 = true := by
 intro c
 induction c with
 | seq a b iha ihb =>
  intro h hd
  simp only [findR, Option.or_eq_some_iff] at h
  simp only [drawsOk, qO5] at hd
  rcases h with h | ⟨_, h⟩
  ·exact iha h hd.1
  ·exact ihb h hd.2
 | cond x a b iha ihb =>
  intro h hd
  simp only [findR, Option.or_eq_some_iff] at h
  simp only [drawsOk, qO5] at hd
  rcases h with h | ⟨_, h⟩
  ·exact iha h hd.1
  ·exact ihb h hd.2
 | block id a ih => intro h hd; exact ih h hd
 | loop a ih => intro h hd; exact ih h hd
 | rangeFunc g ps a b iha ihb =>
  intro h hd
  simp only [findR] at h
  simp only [drawsOk, qO5] at hd
  split at h
  ·cases h; exact hd
  ·cases h
 | _ => intro h _; simp [findR] at h
def mkY (num : Nat) (fn : Func) (r : Nat) (slots : List Nat) : YInfo :=
 match findR r (fn.body.getD .skip) with
 | some (ps, a, b) => { num, ps, assign := a, body := b, slots, nt := fn.ntmps }
 | none => { num, ps := [], assign := .skip, body := .skip, slots, nt := fn.ntmps }
theorem mkY_num {num : Nat} {fn : Func} {r : Nat} {slots : List Nat} : (mkY num fn r slots).num = num := by unfold mkY; split <;> rfl
def oneEach : List Nat → Bool
 | [] => true
 | x :: l => !l.contains x && oneEach l
theorem zkp : ∀ {l : List Nat}, oneEach l = true → l.Nodup
 | [], _ => List.nodup_nil
 | x :: l, h => by
  simp only [oneEach, qO5, Bool.not_eq_true', List.contains_eq_mem, decide_eq_false_iff_not] at h
  exact List.nodup_cons.2 ⟨h.1, zkp h.2⟩
def yB (y : YInfo) : Bool := noRange y.assign && (noRange y.body && (oneEach y.ps && y.ps.all fun k => Nat.blt k y.nt))
theorem mkY_ok {P : Program} {L : Nat → Option TI} {fn : Func} {num r : Nat} {slots : List Nat} {cross : List Nat} {heads : List (Nat × List Nat × List Nat)} {own frz : List Nat} {reads : List (Nat × List Nat)} {stores : List (Nat × Nat)} {ro hp : List Nat} {ys : List (Nat × YInfo)} {win : List Nat} {hide : List (Nat × Nat × List (Nat × List Nat))} {mat : List (Nat × Nat × Nat × Nat)}
  (hb : fnB L own reads stores ro hp fn = true) (hy : yB (mkY num fn r slots) = true := by kernel_rfl) (hrd : reads.all (rdB P) = true := by kernel_rfl) : YOK P L (mkY num fn r slots) (mkA fn cross heads own frz reads stores ro hp ys win hide mat).ann := by
 simp only [fnB, qO5, decide_eq_true_eq, Bool.not_eq_true'] at hb
 obtain ⟨h1, h2, ⟨h4, h4'⟩, h6⟩ := hb
 have hd : drawsOk L (mkA fn cross heads own frz reads stores ro hp ys win hide mat).ann (fn.body.getD .skip) = true :=
  (zii (K := (mkA fn cross heads own frz reads stores ro hp ys win hide mat).ann) (K' := { nt := fn.ntmps, cross := [], heads := [], own, reads, stores, ro, hp }) rfl rfl rfl rfl rfl (fn.body.getD .skip)).trans h6
 simp only [yB, qO5, List.all_eq_true, Nat.blt_eq] at hy
 obtain ⟨y1, y2, y3, y4⟩ := hy
 have hn : (mkY num fn r slots).nt = fn.ntmps := by unfold mkY; split <;> rfl
 refine ⟨?_, ⟨y1, y2⟩, hn, h4', zkp y3, fun k hk => by rw [← show (mkY num fn r slots).nt = (mkA fn cross heads own frz reads stores ro hp ys win hide mat).ann.nt from hn]; exact y4 k hk, rdB_ok hrd⟩
 unfold mkY
 split
 ·rename_i ps a b hf
  exact zov hf hd
 ·exact ⟨rfl, rfl⟩
noncomputable def tabT (X Y : List (Nat × (Nat → List AV → List (Option (List AV)) → Option (AV × List (Option (List AV)))))) (Ts Hs : List (Nat × AFn)) (Ys : List (Nat × YInfo × Ann)) (f : Nat) : Option Entry :=
 match Nat.blt f 1000000000 with
 | true => match aget f X with
  | some o => some (.law o)
  | none => (aget f Ts).map .code
 | false => match aget (f - 1000000000) Y with
  | some o => some (.hlaw o)
  | none => match aget (f - 1000000000) Ys with
   | some y => some (.ycode y.1 y.2)
   | none => (aget (f - 1000000000) Hs).map .hcode
theorem tokT {P : Program} {L : Nat → Option TI} {X Y : List (Nat × (Nat → List AV → List (Option (List AV)) → Option (AV × List (Option (List AV)))))} {Ts Hs : List (Nat × AFn)} {Ys : List (Nat × YInfo × Ann)}
  (hX : ∀ p ∈ X, ∀ tag args lent r lent', p.2 tag args lent = some (r, lent') → CallOK P p.1 tag args lent r lent')
  (hY : ∀ p ∈ Y, (∀ tag args lent r lent', p.2 tag args lent = some (r, lent') → CallOKH P p.1 tag args lent r lent') ∧ ∀ tag y cs args lent, p.2 tag (.yld y cs :: args) lent = none)
  (h : ∀ p ∈ Ts, FnOK P L p.1 p.2) (h' : ∀ p ∈ Hs, FnOK P L p.1 p.2) (hYs : ∀ p ∈ Ys, p.1 = p.2.1.num ∧ YOK P L p.2.1 p.2.2) : TableOK P L (tabT X Y Ts Hs Ys) := fun f e he => by
 unfold tabT at he
 cases hb : Nat.blt f 1000000000 with
 | true =>
  have hlt : f < 1000000000 := by simpa [Nat.blt_eq] using hb
  rw [hb] at he
  simp only at he
  cases hx : aget f X with
  | some o =>
   simp only [hx, qO1] at he
   subst he
   exact ⟨hlt, hX _ (zdf hx)⟩
  | none =>
   simp only [hx, Option.map_eq_some_iff] at he
   obtain ⟨a, ha, rfl⟩ := he
   exact ⟨hlt, h _ (zdf ha)⟩
 | false =>
  have hge : ¬ f < 1000000000 := fun hlt => by
   have : Nat.blt f 1000000000 = true := by simpa [Nat.blt_eq] using hlt
   rw [hb] at this; cases this
  have hf : f = f - 1000000000 + 1000000000 := (Nat.sub_add_cancel (Nat.le_of_not_lt hge)).symm
  rw [hb] at he
  simp only at he
  generalize f - 1000000000 = g at he hf
  cases hx : aget g Y with
  | some o =>
   simp only [hx, qO1] at he
   subst he
   exact ⟨g, hf, hY _ (zdf hx)⟩
  | none =>
   simp only [hx] at he
   cases hz : aget g Ys with
   | some y =>
    simp only [hz, qO1] at he
    subst he
    obtain ⟨e1, e2⟩ := hYs _ (zdf hz)
    exact ⟨by rw [hf]; exact congrArg (· + 1000000000) e1, e2⟩
   | none =>
    simp only [hz, Option.map_eq_some_iff] at he
    obtain ⟨a, ha, rfl⟩ := he
    exact ⟨g, hf, h' _ (zdf ha)⟩
end Go.Sim
end
