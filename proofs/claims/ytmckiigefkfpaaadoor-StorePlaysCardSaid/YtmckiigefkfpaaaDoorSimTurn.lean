/- A region whose operations may be turned round answers in every order the same. -/
import Derived.Test.YtmckiigefkfpaaaDoorSimDraw
set_option linter.unusedVariables false
set_option linter.unusedSimpArgs false
namespace Go.Sim
open Go

/-! ## states that are the same but for how their slots are listed -/

structure Eqv (st st' : St) : Prop where
  heap : ∀ k, aget k st'.heap = aget k st.heap
  next : st'.next = st.next
  tag : st'.tag = st.tag
  env : ∀ k, aget k st'.env = aget k st.env

theorem Eqv.refl (st : St) : Eqv st st := ⟨fun _ => rfl, rfl, rfl, fun _ => rfl⟩
theorem Eqv.symm {a b : St} (h : Eqv a b) : Eqv b a := ⟨fun i => (h.heap i).symm, h.next.symm, h.tag.symm, fun i => (h.env i).symm⟩
theorem Eqv.trans {a b c : St} (h : Eqv a b) (k : Eqv b c) : Eqv a c := ⟨fun i => (k.heap i).trans (h.heap i), k.next.trans h.next, k.tag.trans h.tag, fun i => (k.env i).trans (h.env i)⟩

theorem hits_own {k a : Nat} (h0 : Nat.beq (a % 3) 0 = true) (h : hits k a = true) : grp k = a / 3 := by
  unfold hits at h
  rw [h0] at h
  exact Nat.eq_of_beq_eq_true h
theorem hits_one {k a : Nat} (h0 : Nat.beq (a % 3) 0 = false) (h1 : Nat.beq (a % 3) 1 = true) (h : hits k a = true) : k = a / 3 := by
  unfold hits at h
  rw [h0, h1] at h
  exact Nat.eq_of_beq_eq_true h
theorem hits_in {k a : Nat} (h0 : Nat.beq (a % 3) 0 = false) (h : hits k a = true) : grp k = grp (a / 3) := by
  cases h1 : Nat.beq (a % 3) 1 with
  | true => rw [hits_one h0 h1 h]
  | false =>
    unfold hits at h
    rw [h0, h1] at h
    simp only [Bool.and_eq_true] at h
    exact Nat.eq_of_beq_eq_true h.1
theorem apartA_ok {a b k : Nat} (h : apartA a b = true) (ha : hits k a = true) : hits k b = false := by
  cases hb : hits k b with
  | false => rfl
  | true =>
    exfalso
    unfold apartA at h
    cases e1 : Nat.beq (a % 3) 0 <;> cases e2 : Nat.beq (b % 3) 0 <;> rw [e1, e2] at h <;> simp only at h
    · rw [← hits_in e1 ha, ← hits_in e2 hb, Nat.beq_refl, Bool.not_true, Bool.false_or] at h
      cases e3 : Nat.beq (a % 3) 1 <;> cases e4 : Nat.beq (b % 3) 1 <;> rw [e3, e4] at h <;> simp only at h
      · cases h
      · rw [← hits_one e2 e4 hb, ha] at h; cases h
      · rw [← hits_one e1 e3 ha, hb] at h; cases h
      · rw [← hits_one e1 e3 ha, hb] at h; cases h
    · rw [← hits_in e1 ha, hits_own e2 hb, Nat.beq_refl] at h; cases h
    · rw [← hits_in e2 hb, hits_own e1 ha, Nat.beq_refl] at h; cases h
    · have g := (hits_own e1 ha).symm.trans (hits_own e2 hb)
      have q1 := Nat.eq_of_beq_eq_true e1
      have q2 := Nat.eq_of_beq_eq_true e2
      have : a = b := by omega
      subst this
      rw [Nat.beq_refl] at h; cases h

theorem apartF_ok {a b : Option (List Nat)} (h : apartF a b = true) {k : Nat} (ha : inF a k) : ¬ inF b k := by
  intro hb
  cases a with
  | none =>
    cases b with
    | none => simp [apartF] at h
    | some l => cases l with
      | nil => cases hb
      | cons x l => simp [apartF] at h
  | some l =>
    cases l with
    | nil => cases ha
    | cons x l =>
      cases b with
      | none => simp [apartF] at h
      | some l' =>
        cases l' with
        | nil => cases hb
        | cons y l' =>
          simp only [apartF, List.all_eq_true] at h
          obtain ⟨c, hc, hk⟩ := List.any_eq_true.1 ha
          obtain ⟨d, hd, hk'⟩ := List.any_eq_true.1 hb
          rw [apartA_ok (h c hc d hd) hk] at hk'
          cases hk'

section
variable {L : Nat → Option TI} {K : Ann} {Γ : Oracle} {st : St} {ops : List Oper}

/-- What an operation of a region does: it is carried out, or left out. -/
def Eff (L : Nat → Option TI) (K : Ann) (Γ : Oracle) (ops : List Oper) (o : Oper) (st : St) (v : AV) (s : St) : Prop :=
  (runs ops st o = some true ∧ denOp L K Γ st (o.dst.getD 0) o.type o.op = some (v, s)) ∨ (runs ops st o = some false ∧ v = .tup [] ∧ s = st)

theorem denOper_eff {o : Oper} {s : St} (h : denOper L K Γ ops o st = some s) : o.dst.getD 0 < K.nt ∧ ∃ v s', Eff L K Γ ops o st v s' ∧ s = putD s' o.dst v := by
  unfold denOper at h
  split at h
  · rename_i hlt
    refine ⟨hlt, ?_⟩
    split at h
    · rename_i hr
      simp only [Option.map_eq_some_iff] at h
      obtain ⟨⟨v, s'⟩, h1, rfl⟩ := h
      exact ⟨v, s', .inl ⟨hr, h1⟩, rfl⟩
    · rename_i hr
      simp only [Option.some.injEq] at h
      exact ⟨_, _, .inr ⟨hr, rfl, rfl⟩, h.symm⟩
    · cases h
  · cases h

theorem eff_denOper {o : Oper} {v : AV} {s : St} (hlt : o.dst.getD 0 < K.nt) (h : Eff L K Γ ops o st v s) : denOper L K Γ ops o st = some (putD s o.dst v) := by
  unfold denOper
  rw [if_pos hlt]
  rcases h with ⟨h1, h2⟩ | ⟨h1, rfl, rfl⟩
  · simp only [h1, h2, Option.map_some]
  · simp only [h1]

/-- The slots that an operation looks at are the same. -/
def Looks (ops : List Oper) (o : Oper) (e e' : List (Nat × AV)) : Prop := ∀ d ∈ o.looksAt ops.toArray, aget d e' = aget d e

theorem Looks.operand {o : Oper} {e : List (Nat × AV)} (h : Looks ops o st.env e) : ∀ x ∈ o.op.operands, operand (st.slots e) x = operand st x := by
  intro x hx
  cases x <;> try rfl
  rename_i t
  simp only [Sim.operand]
  rw [h t (List.mem_append_left _ (List.mem_filterMap.2 ⟨.tmp t, by simpa using hx, rfl⟩))]

theorem Looks.runs {o : Oper} {e : List (Nat × AV)} (h : Looks ops o st.env e) : runs ops (st.slots e) o = runs ops st o := by
  unfold Sim.runs
  cases hg : o.guard with
  | none => rfl
  | some p =>
    obtain ⟨j, want⟩ := p
    simp only
    cases hd : (ops[j]?).bind (·.dst) with
    | none => rfl
    | some d =>
      simp only
      rw [h d (List.mem_append_right _ (by simp [hg, hd]))]

theorem Eff.slots {o : Oper} {v : AV} {s : St} {e : List (Nat × AV)} (h : Eff L K Γ ops o st v s) (hl : Looks ops o st.env e) : Eff L K Γ ops o (st.slots e) v (s.slots e) := by
  rcases h with ⟨h1, h2⟩ | ⟨h1, h2, h3⟩
  · exact .inl ⟨by rw [hl.runs]; exact h1, by rw [denOp_slots hl.operand, h2]; rfl⟩
  · exact .inr ⟨by rw [hl.runs]; exact h1, h2, by rw [h3]⟩

theorem Eff.keeps {o : Oper} {v : AV} {s : St} (h : Eff L K Γ ops o st v s) : s.env = st.env ∧ s.tag = st.tag := by
  rcases h with ⟨h1, h2⟩ | ⟨h1, h2, rfl⟩
  · exact denOp_keeps v s h2
  · exact ⟨rfl, rfl⟩

theorem runs_env {o : Oper} {s : St} (he : s.env = st.env) : runs ops s o = runs ops st o := by
  unfold Sim.runs
  rw [he]

/-- The same in another state that is the same where the operation looks. -/
theorem Eff.other {o : Oper} {v : AV} {s s' : St} (h : Eff L K Γ ops o st v s) (hl : Looks ops o st.env s'.env) (ht : s'.tag = st.tag)
    (hr : ∀ k, inF (fpOf L K (o.dst.getD 0) o.op).rd k → Ag st s' k) (hw : ∀ k, inF (fpOf L K (o.dst.getD 0) o.op).wr k → Ag st s' k) (hn : (fpOf L K (o.dst.getD 0) o.op).nx = true → s'.next = st.next) :
    ∃ r', Eff L K Γ ops o s' v r' ∧ Upd (inF (fpOf L K (o.dst.getD 0) o.op).wr) (fpOf L K (o.dst.getD 0) o.op).nx st s s' r' := by
  have h' := h.slots hl
  rcases h' with ⟨h1, h2⟩ | ⟨h1, h2, h3⟩
  · obtain ⟨r', k1, k2⟩ := denOp_local (st := st.slots s'.env) (s' := s') rfl ht hr hw hn h2
    exact ⟨r', .inl ⟨by rw [runs_env (s := s') (st := st.slots s'.env) rfl]; exact h1, k1⟩, ⟨k2.env, k2.tag, k2.ag, k2.out, k2.next, k2.still⟩⟩
  · have hs : s.heap = st.heap ∧ s.next = st.next := by
      have e := congrArg St.heap h3
      have e2 := congrArg St.next h3
      exact ⟨e, e2⟩
    refine ⟨s', .inr ⟨by rw [runs_env (s := s') (st := st.slots s'.env) rfl]; exact h1, h2, rfl⟩, rfl, rfl, fun k hk => by unfold Ag at *; rw [hs.1]; exact hk, fun k _ => ⟨by rw [hs.1], rfl⟩, fun e => e.trans hs.2.symm, fun _ => ⟨hs.2, rfl⟩⟩

theorem putD_slots {s : St} {d : Option Nat} {v : AV} : putD s d v = s.slots (putD s d v).env := by cases d <;> rfl
theorem putD_get {s : St} {d : Option Nat} {v : AV} (k : Nat) : aget k (putD s d v).env = if d = some k then some v else aget k s.env := by
  cases d with
  | none => simp [putD]
  | some d => simp only [putD, aget_aput, Option.some.injEq]

theorem looks_put {o : Oper} {s : St} {d : Option Nat} {v : AV} (h : ∀ k, d = some k → k ∉ o.looksAt ops.toArray) : Looks ops o s.env (putD s d v).env := by
  intro k hk
  rw [putD_get, if_neg]
  intro e
  exact h k e hk

theorem looks_back {o : Oper} {s : St} {d : Option Nat} {v : AV} (h : ∀ k, d = some k → k ∉ o.looksAt ops.toArray) : Looks ops o (putD s d v).env s.env := fun k hk => (looks_put h k hk).symm

theorem putD_rest {s : St} {d : Option Nat} {v : AV} : (putD s d v).heap = s.heap ∧ (putD s d v).next = s.next ∧ (putD s d v).tag = s.tag := by cases d <;> exact ⟨rfl, rfl, rfl⟩

theorem denOper_eqv {o : Oper} {st' s : St} (h : Eqv st st') (hd : denOper L K Γ ops o st = some s) : ∃ s', denOper L K Γ ops o st' = some s' ∧ Eqv s s' := by
  obtain ⟨hlt, v, s1, he, rfl⟩ := denOper_eff hd
  obtain ⟨r', k1, k2⟩ := he.other (s' := st') (fun k _ => h.env k) h.tag (fun k _ => h.heap k) (fun k _ => h.heap k) (fun _ => h.next)
  refine ⟨_, eff_denOper hlt k1, fun k => ?_, ?_, ?_, fun k => ?_⟩
  · rw [putD_rest.1, putD_rest.1]; exact k2.ag k (h.heap k)
  · rw [putD_rest.2.1, putD_rest.2.1]; exact k2.next h.next
  · rw [putD_rest.2.2, putD_rest.2.2, k2.tag, he.keeps.2]; exact h.tag
  · rw [putD_get, putD_get]
    split
    · rfl
    · rw [k2.env, h.env, he.keeps.1]

/-- Two operations turned round. -/
theorem denOper_turn {x y : Oper} (ht : turnOk L K ops.toArray x y = true) {s1 s2 : St} (h1 : denOper L K Γ ops x st = some s1) (h2 : denOper L K Γ ops y s1 = some s2) :
    ∃ t1 t2, denOper L K Γ ops y st = some t1 ∧ denOper L K Γ ops x t1 = some t2 ∧ Eqv s2 t2 := by
  simp only [turnOk, Bool.and_eq_true, Bool.not_eq_true', Bool.and_eq_false_iff] at ht
  obtain ⟨hap, ⟨⟨f1, f2⟩, f3⟩, f4⟩ := ht
  obtain ⟨a1, a2, a3⟩ := Oper.apart_spec hap
  obtain ⟨hx, vx, a, ex, rfl⟩ := denOper_eff h1
  obtain ⟨hy, vy, b, ey, rfl⟩ := denOper_eff h2
  have kx := ex.keeps
  have ky := ey.keeps
  obtain ⟨_, _, ux⟩ := ex.other (s' := st) (fun _ _ => rfl) rfl (fun _ _ => rfl) (fun _ _ => rfl) (fun _ => rfl)
  generalize hpx : fpOf L K (x.dst.getD 0) x.op = p at *
  generalize hpy : fpOf L K (y.dst.getD 0) y.op = q at *
  have hs1 : (putD a x.dst vx).heap = a.heap ∧ (putD a x.dst vx).next = a.next ∧ (putD a x.dst vx).tag = a.tag := putD_rest
  have far : ∀ k, ¬ inF p.wr k → Ag (putD a x.dst vx) st k := fun k hk => by
    unfold Ag
    rw [hs1.1]
    exact (ux.out k hk).1.symm
  obtain ⟨b', ey', u1⟩ := ey.other (s' := st) (by
      intro k hk
      rw [putD_get, if_neg (fun e => a1 k e hk), kx.1]) (by rw [hs1.2.2, kx.2]) (fun k hk => far k fun h => apartF_ok f2 h (hpy ▸ hk)) (fun k hk => far k fun h => apartF_ok f3 h (hpy ▸ hk))
    (fun hq => by rw [hs1.2.1]; exact ((ux.still (f4.resolve_right (by rw [← hpy, hq]; simp))).1).symm)
  rw [hpy] at u1
  have hb' := ey'.keeps
  have ht1 : (putD b' y.dst vy).heap = b'.heap ∧ (putD b' y.dst vy).next = b'.next ∧ (putD b' y.dst vy).tag = b'.tag := putD_rest
  have far2 : ∀ k, ¬ inF q.wr k → Ag st (putD b' y.dst vy) k := fun k hk => by
    unfold Ag
    rw [ht1.1]
    exact (u1.out k hk).2
  obtain ⟨a', ex', u2⟩ := ex.other (s' := putD b' y.dst vy) (by
      intro k hk
      rw [putD_get, if_neg (fun e => a3 k e hk), hb'.1]) (by rw [ht1.2.2, hb'.2]) (fun k hk => far2 k (apartF_ok f1 (hpx ▸ hk))) (fun k hk => far2 k (apartF_ok f3 (hpx ▸ hk)))
    (fun hq => by rw [ht1.2.1]; exact (u1.still (f4.resolve_left (by rw [← hpx, hq]; simp))).2)
  rw [hpx] at u2
  refine ⟨_, _, eff_denOper hy ey', eff_denOper hx ex', fun k => ?_, ?_, ?_, fun k => ?_⟩
  · rw [putD_rest.1, putD_rest.1]
    by_cases hk : inF q.wr k
    · have hkx : ¬ inF p.wr k := fun h => apartF_ok f3 h hk
      rw [(u2.out k hkx).2, ht1.1]
      exact u1.ag k (far k hkx)
    · rw [(u1.out k hk).1, hs1.1]
      exact u2.ag k (far2 k hk)
  · rw [putD_rest.2.1, putD_rest.2.1]
    rcases f4 with hf | hf
    · rw [(u2.still hf).2, ht1.2.1]
      exact u1.next (by rw [hs1.2.1]; exact ((ux.still hf).1).symm)
    · rw [(u1.still hf).1, hs1.2.1]
      exact u2.next (by rw [ht1.2.1]; exact (u1.still hf).2)
  · rw [putD_rest.2.2, putD_rest.2.2, u2.tag, ht1.2.2, ky.2, hs1.2.2, kx.2, hb'.2]
  · rw [putD_get, putD_get, u2.env, ky.1, putD_get, putD_get, hb'.1, kx.1]
    by_cases c1 : x.dst = some k
    · rw [if_pos c1, if_neg (a2 k c1), if_pos c1]
    · rw [if_neg c1, if_neg c1]

/-! ## an order -/

def denIx (L : Nat → Option TI) (K : Ann) (Γ : Oracle) (ops : List Oper) : List Nat → St → Option St
  | [], st => some st
  | i :: l, st => match ops[i]? with
    | some o => (denOper L K Γ ops o st).bind (denIx L K Γ ops l)
    | none => none

theorem denIx_cons {i : Nat} {l : List Nat} {s : St} (h : denIx L K Γ ops (i :: l) st = some s) : ∃ o s1, ops[i]? = some o ∧ denOper L K Γ ops o st = some s1 ∧ denIx L K Γ ops l s1 = some s := by
  simp only [denIx] at h
  split at h
  · rename_i o ho
    simp only [Option.bind_eq_some_iff] at h
    obtain ⟨s1, h1, h2⟩ := h
    exact ⟨o, s1, ho, h1, h2⟩
  · cases h

theorem denIx_of {i : Nat} {l : List Nat} {s s1 : St} {o : Oper} (ho : ops[i]? = some o) (h1 : denOper L K Γ ops o st = some s1) (h2 : denIx L K Γ ops l s1 = some s) : denIx L K Γ ops (i :: l) st = some s := by
  simp only [denIx, ho, h1, Option.bind_some, h2]

theorem denIx_eqv : ∀ {l : List Nat} {st st' s : St}, Eqv st st' → denIx L K Γ ops l st = some s → ∃ s', denIx L K Γ ops l st' = some s' ∧ Eqv s s'
  | [], st, st', s, h, hd => by simp only [denIx, Option.some.injEq] at hd; subst hd; exact ⟨st', rfl, h⟩
  | i :: l, st, st', s, h, hd => by
    obtain ⟨o, s1, ho, h1, h2⟩ := denIx_cons hd
    obtain ⟨t1, k1, k2⟩ := denOper_eqv h h1
    obtain ⟨t2, k3, k4⟩ := denIx_eqv k2 h2
    exact ⟨t2, denIx_of ho k1 k3, k4⟩

/-- An operation moved ahead of others. -/
theorem denIx_move {i : Nat} {y : Oper} (hy : ops[i]? = some y) {B : List Nat} : ∀ {A : List Nat} {st s : St}, (∀ j ∈ A, ∀ x, ops[j]? = some x → turnOk L K ops.toArray x y = true) → denIx L K Γ ops (A ++ i :: B) st = some s →
    ∃ s', denIx L K Γ ops (i :: (A ++ B)) st = some s' ∧ Eqv s s'
  | [], st, s, _, h => ⟨s, h, Eqv.refl s⟩
  | j :: A, st, s, ht, h => by
    obtain ⟨x, s1, hx, h1, h2⟩ := denIx_cons h
    obtain ⟨s', k1, k2⟩ := denIx_move hy (fun j hj => ht j (by simp [hj])) h2
    obtain ⟨y', s2, hy', k3, k4⟩ := denIx_cons k1
    rw [hy] at hy'
    simp only [Option.some.injEq] at hy'
    subst hy'
    obtain ⟨t1, t2, q1, q2, q3⟩ := denOper_turn (ht j (by simp) x hx) h1 k3
    obtain ⟨s'', q4, q5⟩ := denIx_eqv q3 k4
    exact ⟨s'', denIx_of hy q1 (denIx_of hx q2 q4), k2.trans q5⟩

theorem denIx_range : ∀ (l : List Oper) (k : Nat) (st : St), ops.drop k = l → denIx L K Γ ops (List.range' k l.length) st = denOps L K Γ ops l st
  | [], k, st, h => rfl
  | o :: l, k, st, h => by
    have ho : ops[k]? = some o := by
      have := congrArg (fun x => x[0]?) h
      simpa using this
    have hl : ops.drop (k + 1) = l := by
      have := congrArg (List.drop 1) h
      simpa [Nat.add_comm] using this
    simp only [List.length_cons, List.range'_succ, denIx, ho, denOps]
    cases denOper L K Γ ops o st with
    | none => rfl
    | some s => simp only [Option.bind_some]; exact denIx_range l (k + 1) s hl

end

/-! ## all orders -/

section
variable {P : Program} {c : Cx} {nt : Nat} {st : St} {a : Act} {w : World} {m : Mp} {L : Nat → Option TI} {K : Ann} {Γ : Oracle}

theorem runs_ok (h : RelM c nt st a w m) {ops : List Oper} {o : Oper} {b : Bool} (hr : runs ops st o = some b) : Region.wanted o (yielded ops.toArray a.tmps) = b := by
  unfold runs at hr
  unfold Region.wanted
  cases hg : o.guard with
  | none => rw [hg] at hr; simpa using hr
  | some p =>
    obtain ⟨j, want⟩ := p
    rw [hg] at hr
    simp only at hr ⊢
    cases hd : (ops[j]?).bind (·.dst) with
    | none => rw [hd] at hr; cases hr
    | some d =>
      rw [hd] at hr
      simp only at hr
      have hy : yielded ops.toArray a.tmps j = match a.tmps[d]? with | some (.bool b) => some b | _ => none := by
        unfold yielded
        rw [List.getElem?_toArray, hd]
        rfl
      rw [hy]
      cases he : aget d st.env with
      | none => rw [he] at hr; cases hr
      | some v =>
        rw [he] at hr
        have hv := h.env d v he
        rw [Array.getD_eq_getD_getElem?] at hv
        cases v <;> (try simp only at hr) <;> first | (cases hr; done) | skip
        case bool x =>
          simp only [Option.some.injEq] at hr
          have e := hv.bool_inv
          cases ht : a.tmps[d]? with
          | none => rw [ht] at e; simp [undef] at e
          | some u => rw [ht] at e; simp at e; subst e; simp [← hr]
        case tup vs =>
          cases vs with
          | cons => first | (simp at hr; done) | cases hr
          | nil =>
            simp only [Option.some.injEq] at hr
            obtain ⟨us, e, hus⟩ := hv.tup_inv
            subst hr
            cases ht : a.tmps[d]? with
            | none => simp
            | some u => rw [ht] at e; simp at e; subst e; simp


theorem RelM.eqv (h : RelM c nt st a w m) {st' : St} (e : Eqv st st') : RelM c nt st' a w m := by
  have hl : Later (At st w m) (At st' w m) := by
    refine ⟨Pres.refl _ _, fun b o _ ho => ?_, fun k b hb _ => ⟨b, by rw [← e.heap]; exact hb, rfl, rfl, rfl, rfl⟩, fun σ x => ?_, fun _ _ _ x => .inr x, rfl⟩
    · obtain ⟨k, blk, h1, h2⟩ := ho
      exact ⟨k, blk, by rw [← e.heap]; exact h1, h2⟩
    · show okS st'.tag st'.next σ
      rw [e.tag, e.next]; exact x
  refine ⟨h.defers, h.size, by rw [e.next]; exact h.next1, h.mB, fun k v hk => (h.env k v (by rw [← e.env]; exact hk)).move hl (.inl (Nat.le_refl _)), h.pres, fun k b hk => ?_, fun k j b b' hkj hk hj => h.apart k j b b' hkj (by rw [← e.heap]; exact hk) (by rw [← e.heap]; exact hj)⟩
  exact (h.blk k b (by rw [← e.heap]; exact hk)).keep hl e.tag rfl rfl (Nat.le_refl _) (fun cs ty fr hc => ⟨cs, hc, rfl, fun _ _ _ => rfl⟩) fun es n hc _ _ => hc

theorem denOper_wpOp (hnt : K.nt ≤ 500000) (hL : LOK P L) (hΓ : OracleOK P Γ) (hG : GlobK P K c) {ops : List Oper} {Q : Exit → Act → World → Prop} {k : Act → World → Prop} {i : Nat} {o : Oper} (hi : ops[i]? = some o) (h : RelM c K.nt st a w m) {st1 : St}
    (h1 : denOper L K Γ ops o st = some st1) (hk : ∀ a' w' m', RelM c K.nt st1 a' w' m' → k a' w') : wpOp P ops.toArray Q i k a w := by
  unfold wpOp
  rw [List.getElem?_toArray, hi]
  simp only
  unfold denOper at h1
  split at h1
  · rename_i hlt
    cases hr : runs ops st o with
    | none => rw [hr] at h1; cases h1
    | some b =>
      have hw := runs_ok h hr
      rw [hr] at h1
      cases b with
      | true =>
        rw [if_pos hw]
        simp only at h1
        cases hop : denOp L K Γ st (o.dst.getD 0) o.type o.op with
        | none => rw [hop] at h1; cases h1
        | some p =>
          obtain ⟨v, st2⟩ := p
          rw [hop] at h1
          simp only [Option.map_some, Option.some.injEq] at h1
          subst h1
          exact .inl (denOp_goes hL hΓ hG h rfl hop (Nat.lt_of_lt_of_le hlt hnt) _ _ fun y w' m' hR hV => hk _ _ m' (hR.put hlt hV))
      | false =>
        rw [if_neg (by rw [hw]; simp)]
        simp only [Option.some.injEq] at h1
        subst h1
        exact hk _ _ m (h.put hlt (.tup (vs := []) (.nil _)))
  · cases h1

/-- What has not been done. -/
def left (n : Nat) (listed : Array Bool) : List Nat := (List.range n).filter fun i => !listed.getD i true

def Shut (ops : Array Oper) (listed : Array Bool) : Prop := ∀ i o, ops[i]? = some o → listed.getD i false = true → ∀ j ∈ directs o, listed.getD j false = true

theorem mem_directs {o : Oper} {j : Nat} : j ∈ directs o ↔ ∃ e ∈ o.after, Region.binds .any e = true ∧ e.on = j := by
  simp only [directs, List.mem_filterMap, Array.mem_toList_iff]
  constructor
  · rintro ⟨e, he, h⟩
    split at h
    · rename_i hb
      simp only [Option.some.injEq] at h
      exact ⟨e, he, hb, h⟩
    · cases h
  · rintro ⟨e, he, hb, rfl⟩
    exact ⟨e, he, by rw [if_pos hb]⟩

theorem waits_listed {ops : Array Oper} {listed : Array Bool} (hs : Shut ops listed) {i : Nat} {o : Oper} (hi : ops[i]? = some o) (hd : ∀ j ∈ directs o, listed.getD j false = true) :
    ∀ n, ∀ j ∈ waits ops n i, listed.getD j false = true
  | 0, j, hj => by simp only [waits, hi] at hj; exact hd j hj
  | n + 1, j, hj => by
    simp only [waits, List.mem_eraseDups, List.mem_append, List.mem_flatMap] at hj
    rcases hj with hj | ⟨k, hk, hj⟩
    · exact waits_listed hs hi hd n j hj
    · split at hj
      · rename_i o' ho'
        exact hs k o' ho' (waits_listed hs hi hd n k hk) j hj
      · cases hj

theorem getD_set {listed : Array Bool} {i j : Nat} {d : Bool} (hi : i < listed.size) : (listed.setIfInBounds i true).getD j d = if i = j then true else listed.getD j d := by
  rw [Array.getD_eq_getD_getElem?, Array.getD_eq_getD_getElem?, Array.getElem?_setIfInBounds]
  by_cases h : i = j
  · subst h; simp [hi]
  · simp [h]

theorem left_set {n : Nat} {listed : Array Bool} {i : Nat} (hi : i < listed.size) : left n (listed.setIfInBounds i true) = (left n listed).filter (· != i) := by
  unfold left
  rw [List.filter_filter]
  congr 1
  funext j
  rw [getD_set hi]
  by_cases h : i = j
  · subst h; simp
  · simp [h, Ne.symm h]

theorem split_at {i : Nat} : ∀ {l : List Nat}, l.Pairwise (· < ·) → i ∈ l → ∃ A B, l = A ++ i :: B ∧ l.filter (· != i) = A ++ B ∧ ∀ j ∈ A, j < i
  | [], _, h => by cases h
  | k :: l, hp, h => by
    obtain ⟨h1, h2⟩ := List.pairwise_cons.1 hp
    by_cases e : k = i
    · subst e
      refine ⟨[], l, rfl, ?_, by simp⟩
      simp only [List.filter_cons, bne_self_eq_false, Bool.false_eq_true, if_false, List.nil_append]
      rw [List.filter_eq_self]
      intro j hj
      have := h1 j hj
      simp only [bne_iff_ne]; omega
    · have hi : i ∈ l := by
        rcases List.mem_cons.1 h with h | h
        · exact (e h.symm).elim
        · exact h
      obtain ⟨A, B, a1, a2, a3⟩ := split_at h2 hi
      refine ⟨k :: A, B, by rw [a1]; rfl, ?_, ?_⟩
      · simp only [List.filter_cons, bne_iff_ne, ne_eq, e, not_false_eq_true, if_true, a2]; rfl
      · intro j hj
        rcases List.mem_cons.1 hj with rfl | hj
        · exact h1 i hi
        · exact a3 j hj

theorem left_sorted (n : Nat) (listed : Array Bool) : (left n listed).Pairwise (· < ·) := List.Pairwise.filter _ List.pairwise_lt_range

theorem any_wp (hnt : K.nt ≤ 500000) (hL : LOK P L) (hΓ : OracleOK P Γ) (hG : GlobK P K c) {ops : List Oper} (hok : drawOk L K ops.toArray = true) {Q : Exit → Act → World → Prop} {st' : St} (hq : ∀ a' w' m', RelM c K.nt st' a' w' m' → Q .normal a' w') :
    ∀ (fuel : Nat) (listed : Array Bool) (st s : St) (a : Act) (w : World) (m : Mp), listed.size = ops.length → Shut ops.toArray listed → (left ops.length listed).length ≤ fuel → RelM c K.nt st a w m →
      denIx L K Γ ops (left ops.length listed) st = some s → Eqv s st' → wpAny P .any ops.toArray Q fuel listed a w := by
  have hdr := List.all_eq_true.1 hok
  -- what an operation may be turned round with
  have turn : ∀ i y, ops[i]? = some y → (∀ j ∈ directs y, j < i) ∧ ∀ j x, j < i → ops[j]? = some x → j ∈ waits ops.toArray 12 i ∨ turnOk L K ops.toArray x y = true := by
    intro i y hy
    have hlt : i < ops.length := (List.getElem?_eq_some_iff.1 hy).1
    have := hdr i (by simpa using hlt)
    rw [List.getElem?_toArray, hy] at this
    simp only [Bool.and_eq_true, List.all_eq_true, decide_eq_true_eq, List.mem_range] at this
    obtain ⟨t1, t2⟩ := this
    refine ⟨t1, fun j x hj hx => ?_⟩
    have := t2 j hj
    rw [List.getElem?_toArray, hx] at this
    simpa using this
  intro fuel
  have ready_left : ∀ (listed : Array Bool) i, i ∈ Region.ready .any ops.toArray listed → i ∈ left ops.length listed ∧ i < ops.length ∧ ∃ o, ops[i]? = some o ∧ ∀ j ∈ directs o, listed.getD j false = true := by
    intro listed i hi
    obtain ⟨h1, o, h2, h3⟩ := mem_ready.1 hi
    rw [List.getElem?_toArray] at h2
    have hlt : i < ops.length := (List.getElem?_eq_some_iff.1 h2).1
    refine ⟨List.mem_filter.2 ⟨by simpa using hlt, by simp [h1]⟩, hlt, o, h2, fun j hj => ?_⟩
    obtain ⟨e, he, hb, rfl⟩ := mem_directs.1 hj
    exact h3 e he hb
  have none_left : ∀ (listed : Array Bool), listed.size = ops.length → Region.ready .any ops.toArray listed = [] → left ops.length listed = [] := by
    intro listed hsz hr
    cases hl : left ops.length listed with
    | nil => rfl
    | cons i l =>
      exfalso
      have hsort := left_sorted ops.length listed
      rw [hl] at hsort
      have hmem : i ∈ left ops.length listed := by rw [hl]; simp
      obtain ⟨m1, m2⟩ := List.mem_filter.1 hmem
      have hlt : i < ops.length := by simpa using m1
      obtain ⟨y, hy⟩ : ∃ y, ops[i]? = some y := ⟨ops[i], by simp [hlt]⟩
      have : i ∈ Region.ready .any ops.toArray listed := by
        refine mem_ready.2 ⟨by simpa using m2, y, by rw [List.getElem?_toArray]; exact hy, fun e he hb => ?_⟩
        have hj := (turn i y hy).1 e.on (mem_directs.2 ⟨e, he, hb, rfl⟩)
        have hne : e.on ∉ left ops.length listed := by
          rw [hl]
          intro hx
          rcases List.mem_cons.1 hx with hx | hx
          · omega
          · have := (List.pairwise_cons.1 hsort).1 _ hx
            omega
        have hjl : e.on < listed.size := by omega
        have : listed.getD e.on true = true := by
          by_cases hc : listed.getD e.on true = true
          · exact hc
          · exact (hne (List.mem_filter.2 ⟨by simp; omega, by simpa using hc⟩)).elim
        rw [Array.getD_eq_getD_getElem?] at this ⊢
        rw [Array.getElem?_eq_getElem hjl] at this ⊢
        exact this
      rw [hr] at this
      cases this
  induction fuel with
  | zero =>
    intro listed st s a w m hsz hsh hf h hd he
    have hl : left ops.length listed = [] := List.eq_nil_of_length_eq_zero (by omega)
    refine ⟨?_, ?_⟩
    · cases hr : Region.ready .any ops.toArray listed with
      | nil => rfl
      | cons i l =>
        have := (ready_left listed i (by rw [hr]; simp)).1
        rw [hl] at this
        cases this
    · rw [hl] at hd
      simp only [denIx, Option.some.injEq] at hd
      subst hd
      exact hq a w m (h.eqv he)
  | succ fuel ih =>
    intro listed st s a w m hsz hsh hf h hd he
    refine ⟨fun hr => ?_, fun i hi => ?_⟩
    · rw [none_left listed hsz hr] at hd
      simp only [denIx, Option.some.injEq] at hd
      subst hd
      exact hq a w m (h.eqv he)
    · obtain ⟨hil, hlt, y, hy, hdy⟩ := ready_left listed i hi
      obtain ⟨A, B, e1, e2, e3⟩ := split_at (left_sorted _ _) hil
      rw [e1] at hd
      have hw := waits_listed hsh (by rw [List.getElem?_toArray]; exact hy) hdy 12
      obtain ⟨s', k1, k2⟩ := denIx_move hy (fun j hj x hx => by
        rcases (turn i y hy).2 j x (e3 j hj) hx with h1 | h1
        · have hjl : j ∈ left ops.length listed := by rw [e1]; simp [hj]
          have h2 := hw j h1
          have h3 := (List.mem_filter.1 hjl).2
          have hjs : j < listed.size := by rw [hsz]; exact (List.getElem?_eq_some_iff.1 hx).1
          rw [Array.getD_eq_getD_getElem?, Array.getElem?_eq_getElem hjs] at h2 h3
          simp only [Option.getD_some] at h2 h3
          rw [h2] at h3
          cases h3
        · exact h1) hd
      obtain ⟨y', s1, hy', k3, k4⟩ := denIx_cons k1
      rw [hy] at hy'
      simp only [Option.some.injEq] at hy'
      subst hy'
      refine denOper_wpOp hnt hL hΓ hG hy h k3 fun a' w' m' hR => ?_
      have hset : left ops.length (listed.setIfInBounds i true) = A ++ B := by rw [left_set (by omega), e2]
      refine ih _ s1 s' a' w' m' (by simp [hsz]) ?_ ?_ hR (by rw [hset]; exact k4) (k2.symm.trans he)
      · intro k o ho hk j hj
        rw [getD_set (by omega)] at hk ⊢
        split
        · rfl
        · split at hk
          · rename_i e; subst e
            rw [List.getElem?_toArray, hy] at ho
            simp only [Option.some.injEq] at ho
            subst ho
            exact hdy j hj
          · exact hsh k o ho hk j hj
      · rw [hset]
        have : (left ops.length listed).length = A.length + (B.length + 1) := by rw [e1]; simp
        simp only [List.length_append]; omega

/-- A region that draws its order. -/
theorem region_any (hnt : K.nt ≤ 500000) (hm : P.follows .mixedOrders = true) (hL : LOK P L) (hΓ : OracleOK P Γ) (hG : GlobK P K c) {id : Nat} {ops : List Oper} (hok : drawOk L K ops.toArray = true) {Q : Exit → Act → World → Prop} {st' : St} (h : RelM c K.nt st a w m)
    (hd : denOps L K Γ ops ops st = some st') (hq : ∀ a' w' m', RelM c K.nt st' a' w' m' → Q .normal a' w') : (Code.region id ops.toArray true).wp P Q a w := by
  refine wp_region_any hm ?_
  have hr : RelM c K.nt st a { w with drawn := w.drawn + 1 } m := h.drew.1
  have hl : left ops.length (Array.replicate ops.toArray.size false) = List.range ops.length := by
    unfold left
    rw [List.filter_eq_self]
    intro i hi
    have : i < ops.length := by simpa using hi
    rw [Array.getD_eq_getD_getElem?]
    simp [this]
  refine any_wp hnt hL hΓ hG hok hq _ _ st st' a _ m (by simp) ?_ (by rw [hl]; simp) hr ?_ (Eqv.refl _)
  · intro i o ho hi
    rw [Array.getD_eq_getD_getElem?, Array.getElem?_replicate] at hi
    split at hi <;> simp at hi
  · rw [hl, List.range_eq_range', denIx_range ops 0 st rfl]
    exact hd

end
end Go.Sim
