/- The table's functions, unrolled: what a call answers is what its code answers over the same table. -/
import Derived.Test.YtmckiigefkfpaaaDoorSimFn
set_option linter.unusedVariables false
set_option linter.unusedSimpArgs false
namespace Go.Sim
open Go

def Oracle.Le (Γ Γ' : Oracle) : Prop := ∀ f t a l r, Γ f t a l = some r → Γ' f t a l = some r

/-- A family of oracles that grows. -/
structure Tower (G : Nat → Oracle) (Γ : Oracle) : Prop where
  up : ∀ n m, n ≤ m → (G n).Le (G m)
  lim : ∀ f t a l r, Γ f t a l = some r → ∃ n, G n f t a l = some r
  below : ∀ n, (G n).Le Γ

section
variable {L : Nat → Option TI} {K : Ann} {G : Nat → Oracle} {Γ : Oracle}

theorem aCall_le {Γ Γ' : Oracle} (h : Γ.Le Γ') {own : Bool} {st : St} {d f : Nat} {args : List AV} {ts : List Nat} {r : AV × St} (hc : aCall L own Γ st d f args ts = some r) : aCall L own Γ' st d f args ts = some r := by
  unfold aCall at *
  cases hl : lendAll L st 0 args ts with
  | none => rw [hl] at hc; cases hc
  | some l =>
    simp only [hl, Option.bind_eq_bind, Option.bind_some] at hc ⊢
    split
    · rename_i hx
      rw [if_pos hx] at hc
      cases hg : Γ f (st.tag + 1) (l.map (·.1)) (l.map (·.2.1)) with
      | none => rw [hg] at hc; cases hc
      | some p => rw [h _ _ _ _ _ hg]; rw [hg] at hc; exact hc
    · rename_i hx; rw [if_neg hx] at hc; cases hc

theorem aCall_lim (T : Tower G Γ) {own : Bool} {st : St} {d f : Nat} {args : List AV} {ts : List Nat} {r : AV × St} (hc : aCall L own Γ st d f args ts = some r) : ∃ n, aCall L own (G n) st d f args ts = some r := by
  unfold aCall at *
  cases hl : lendAll L st 0 args ts with
  | none => rw [hl] at hc; cases hc
  | some l =>
    simp only [hl, Option.bind_eq_bind, Option.bind_some] at hc ⊢
    split at hc
    · rename_i hx
      cases hg : Γ f (st.tag + 1) (l.map (·.1)) (l.map (·.2.1)) with
      | none => rw [hg] at hc; cases hc
      | some p =>
        obtain ⟨n, hn⟩ := T.lim _ _ _ _ _ hg
        refine ⟨n, ?_⟩
        rw [if_pos hx, hn]; rw [hg] at hc; exact hc
    · cases hc

theorem roCall_le {Γ Γ' : Oracle} (h : Γ.Le Γ') {st : St} {f : Nat} {args : List AV} {ts : List Nat} {r : AV × St} (hc : roCall L Γ st f args ts = some r) : roCall L Γ' st f args ts = some r := by
  unfold roCall at *
  cases hl : lendAll L st 0 args ts with
  | none => rw [hl] at hc; cases hc
  | some l =>
    simp only [hl, Option.bind_eq_bind, Option.bind_some] at hc ⊢
    split
    · rename_i hx
      rw [if_pos hx] at hc
      cases hg : Γ f (st.tag + 1) (l.map (·.1)) (l.map (·.2.1)) with
      | none => rw [hg] at hc; cases hc
      | some p => rw [h _ _ _ _ _ hg]; rw [hg] at hc; exact hc
    · rename_i hx; rw [if_neg hx] at hc; cases hc

theorem roCall_lim (T : Tower G Γ) {st : St} {f : Nat} {args : List AV} {ts : List Nat} {r : AV × St} (hc : roCall L Γ st f args ts = some r) : ∃ n, roCall L (G n) st f args ts = some r := by
  unfold roCall at *
  cases hl : lendAll L st 0 args ts with
  | none => rw [hl] at hc; cases hc
  | some l =>
    simp only [hl, Option.bind_eq_bind, Option.bind_some] at hc ⊢
    split at hc
    · rename_i hx
      cases hg : Γ f (st.tag + 1) (l.map (·.1)) (l.map (·.2.1)) with
      | none => rw [hg] at hc; cases hc
      | some p =>
        obtain ⟨n, hn⟩ := T.lim _ _ _ _ _ hg
        refine ⟨n, ?_⟩
        rw [if_pos hx, hn]; rw [hg] at hc; exact hc
    · cases hc

theorem hCall_le {Γ Γ' : Oracle} (h : Γ.Le Γ') {rd : Option (List Nat)} {st : St} {d f : Nat} {args : List AV} {r : AV × St} (hc : hCall rd Γ st d f args = some r) : hCall rd Γ' st d f args = some r := by
  unfold hCall at *
  simp only [Option.bind_eq_bind, Option.bind_eq_some_iff] at hc ⊢
  obtain ⟨pk, h1, hc⟩ := hc
  refine ⟨pk, h1, ?_⟩
  split at hc
  · rename_i hx
    rw [if_pos hx]
    simp only [Option.bind_eq_some_iff] at hc ⊢
    obtain ⟨l, h2, q, h3, hc⟩ := hc
    exact ⟨l, h2, q, h _ _ _ _ _ h3, hc⟩
  · cases hc

theorem hCall_lim (T : Tower G Γ) {rd : Option (List Nat)} {st : St} {d f : Nat} {args : List AV} {r : AV × St} (hc : hCall rd Γ st d f args = some r) : ∃ n, hCall rd (G n) st d f args = some r := by
  unfold hCall at *
  simp only [Option.bind_eq_bind, Option.bind_eq_some_iff] at hc ⊢
  obtain ⟨pk, h1, hc⟩ := hc
  split at hc
  · rename_i hx
    simp only [Option.bind_eq_some_iff] at hc
    obtain ⟨l, h2, q, h3, hc⟩ := hc
    obtain ⟨n, hn⟩ := T.lim _ _ _ _ _ h3
    refine ⟨n, pk, h1, ?_⟩
    rw [if_pos hx]
    simp only [Option.bind_eq_some_iff]
    exact ⟨l, h2, q, hn, hc⟩
  · cases hc

theorem denOp_le {Γ Γ' : Oracle} (h : Γ.Le Γ') {st : St} {d ty : Nat} {op : Op} {r : AV × St} (hc : denOp L K Γ st d ty op = some r) : denOp L K Γ' st d ty op = some r := by
  cases op <;> first | exact hc | skip
  case slice t x lo hi mx => cases mx <;> exact hc
  case makeMap t hint => cases hint <;> exact hc
  case call c =>
    simp only [denOp] at hc ⊢
    cases hk : c.callee with
    | builtin b => rw [hk] at hc; exact hc
    | invoke r s => rw [hk] at hc; exact hc
    | value f =>
      rw [hk] at hc
      simp only at hc ⊢
      cases hf : operand st f <;> rw [hf] at hc <;> first | exact hc | skip
      simp only at hc ⊢
      split at hc
      · rename_i hz; rw [if_pos hz]; exact hCall_le h hc
      rename_i hz
      rw [if_neg hz]
      split at hc
      · cases hc
      · rename_i hx
        rw [if_neg hx]
        split at hc
        · rename_i hy; rw [if_pos hy]; exact roCall_le h hc
        · rename_i hy; rw [if_neg hy]; exact aCall_le h hc

theorem denOp_lim (T : Tower G Γ) {st : St} {d ty : Nat} {op : Op} {r : AV × St} (hc : denOp L K Γ st d ty op = some r) : ∃ n, denOp L K (G n) st d ty op = some r := by
  cases op <;> first | exact ⟨0, hc⟩ | skip
  case slice t x lo hi mx => cases mx <;> exact ⟨0, hc⟩
  case makeMap t hint => cases hint <;> exact ⟨0, hc⟩
  case call c =>
    simp only [denOp] at hc ⊢
    cases hk : c.callee with
    | builtin b => rw [hk] at hc; exact ⟨0, hc⟩
    | invoke r s => rw [hk] at hc; exact ⟨0, hc⟩
    | value f =>
      rw [hk] at hc
      simp only at hc ⊢
      cases hf : operand st f <;> rw [hf] at hc <;> first | exact ⟨0, hc⟩ | skip
      simp only at hc ⊢
      split at hc
      · rename_i hz
        obtain ⟨n, hn⟩ := hCall_lim T hc
        exact ⟨n, by rw [if_pos hz]; exact hn⟩
      rename_i hz
      split at hc
      · cases hc
      · rename_i hx
        split at hc
        · rename_i hy
          obtain ⟨n, hn⟩ := roCall_lim T hc
          exact ⟨n, by rw [if_neg hz, if_neg hx, if_pos hy]; exact hn⟩
        · rename_i hy
          obtain ⟨n, hn⟩ := aCall_lim T hc
          exact ⟨n, by rw [if_neg hz, if_neg hx, if_neg hy]; exact hn⟩

theorem denOper_le {Γ Γ' : Oracle} (h : Γ.Le Γ') {ops : List Oper} {o : Oper} {st r : St} (hc : denOper L K Γ ops o st = some r) : denOper L K Γ' ops o st = some r := by
  unfold denOper at *
  split
  · rename_i hx
    rw [if_pos hx] at hc
    cases hr : runs ops st o with
    | none => rw [hr] at hc; cases hc
    | some b =>
      rw [hr] at hc
      cases b with
      | false => exact hc
      | true =>
        simp only at hc ⊢
        cases hd : denOp L K Γ st (o.dst.getD 0) o.type o.op with
        | none => rw [hd] at hc; cases hc
        | some p => rw [denOp_le h hd]; rw [hd] at hc; exact hc
  · rename_i hx; rw [if_neg hx] at hc; cases hc

theorem denOper_lim (T : Tower G Γ) {ops : List Oper} {o : Oper} {st r : St} (hc : denOper L K Γ ops o st = some r) : ∃ n, denOper L K (G n) ops o st = some r := by
  unfold denOper at *
  split at hc
  · rename_i hx
    cases hr : runs ops st o with
    | none => rw [hr] at hc; cases hc
    | some b =>
      rw [hr] at hc
      cases b with
      | false => exact ⟨0, by rw [if_pos hx]; exact hc⟩
      | true =>
        simp only at hc ⊢
        cases hd : denOp L K Γ st (o.dst.getD 0) o.type o.op with
        | none => rw [hd] at hc; cases hc
        | some p =>
          obtain ⟨n, hn⟩ := denOp_lim T hd
          exact ⟨n, by rw [if_pos hx, hn]; rw [hd] at hc; exact hc⟩
  · cases hc

theorem denOps_le {Γ Γ' : Oracle} (h : Γ.Le Γ') {ops : List Oper} : ∀ {l : List Oper} {st r : St}, denOps L K Γ ops l st = some r → denOps L K Γ' ops l st = some r
  | [], st, r, hc => hc
  | o :: l, st, r, hc => by
    simp only [denOps] at hc ⊢
    cases hd : denOper L K Γ ops o st with
    | none => rw [hd] at hc; cases hc
    | some s => rw [denOper_le h hd]; rw [hd] at hc; exact denOps_le h (l := l) hc

theorem denOps_lim (T : Tower G Γ) {ops : List Oper} : ∀ {l : List Oper} {st r : St}, denOps L K Γ ops l st = some r → ∃ n, denOps L K (G n) ops l st = some r
  | [], st, r, hc => ⟨0, hc⟩
  | o :: l, st, r, hc => by
    simp only [denOps] at hc ⊢
    cases hd : denOper L K Γ ops o st with
    | none => rw [hd] at hc; cases hc
    | some s =>
      rw [hd] at hc
      obtain ⟨n, hn⟩ := denOper_lim T hd
      obtain ⟨n', hn'⟩ := denOps_lim T (l := l) hc
      refine ⟨max n n', ?_⟩
      rw [denOper_le (T.up n _ (Nat.le_max_left _ _)) hn]
      exact denOps_le (T.up n' _ (Nat.le_max_right _ _)) hn'

theorem loopF_le' {f g : St → Option (Ex × St)} (h : ∀ st r, f st = some r → g st = some r) : ∀ {n : Nat} {st : St} {r : Ex × St}, loopF f n st = some r → loopF g n st = some r
  | 0, st, r, hc => by simp [loopF] at hc
  | n + 1, st, r, hc => by
    unfold loopF at hc ⊢
    cases hf : f st with
    | none => rw [hf] at hc; cases hc
    | some p =>
      obtain ⟨e, s⟩ := p
      rw [h _ _ hf]
      rw [hf] at hc
      cases e with
      | normal => exact loopF_le' h hc
      | exit i => exact hc
      | ret => exact hc

theorem den_le {Γ Γ' : Oracle} (h : Γ.Le Γ') : ∀ {code : Code} {st : St} {r : Ex × St}, den loopω L K Γ code st = some r → den loopω L K Γ' code st = some r := by
  intro code
  induction code with
  | region id ops draw =>
    intro st r hc
    simp only [den] at hc ⊢
    cases hd : denOps L K Γ ops.toList ops.toList st with
    | none => rw [hd] at hc; cases hc
    | some s => rw [denOps_le h hd]; rw [hd] at hc; exact hc
  | seq x y ihx ihy =>
    intro st r hc
    simp only [den] at hc ⊢
    cases hx : den loopω L K Γ x st with
    | none => rw [hx] at hc; cases hc
    | some p =>
      obtain ⟨e, s⟩ := p
      rw [ihx hx]
      rw [hx] at hc
      cases e with
      | normal => exact ihy hc
      | exit i => exact hc
      | ret => exact hc
  | cond x y z ihy ihz =>
    intro st r hc
    simp only [den] at hc ⊢
    split
    · rename_i b hb
      rw [hb] at hc
      simp only at hc
      cases b with
      | true => simp only [if_true] at hc ⊢; exact ihy hc
      | false => simp only [if_false, Bool.false_eq_true] at hc ⊢; exact ihz hc
    · rename_i hx
      split at hc
      · rename_i b hb; exact (hx b hb).elim
      · cases hc
  | block id x ih =>
    intro st r hc
    simp only [den] at hc ⊢
    cases hx : den loopω L K Γ x st with
    | none => rw [hx] at hc; cases hc
    | some p => rw [ih hx]; rw [hx] at hc; exact hc
  | loop x ih =>
    intro st r hc
    simp only [den] at hc ⊢
    obtain ⟨n, hn⟩ := of_loopω hc
    exact loopω_of (loopF_le' (fun st r hh => ih hh) hn)
  | _ => intro st r hc; simpa only [den] using hc

theorem den_lim (T : Tower G Γ) : ∀ {code : Code} {st : St} {r : Ex × St}, den loopω L K Γ code st = some r → ∃ n, den loopω L K (G n) code st = some r := by
  intro code
  induction code with
  | region id ops draw =>
    intro st r hc
    simp only [den] at hc ⊢
    cases hd : denOps L K Γ ops.toList ops.toList st with
    | none => rw [hd] at hc; cases hc
    | some s =>
      obtain ⟨n, hn⟩ := denOps_lim T hd
      exact ⟨n, by rw [hn]; rw [hd] at hc; exact hc⟩
  | seq x y ihx ihy =>
    intro st r hc
    simp only [den] at hc ⊢
    cases hx : den loopω L K Γ x st with
    | none => rw [hx] at hc; cases hc
    | some p =>
      obtain ⟨e, s⟩ := p
      rw [hx] at hc
      obtain ⟨n, hn⟩ := ihx hx
      cases e with
      | normal =>
        obtain ⟨n', hn'⟩ := ihy hc
        refine ⟨max n n', ?_⟩
        rw [den_le (T.up n _ (Nat.le_max_left _ _)) hn]
        exact den_le (T.up n' _ (Nat.le_max_right _ _)) hn'
      | exit i => exact ⟨n, by rw [hn]; exact hc⟩
      | ret => exact ⟨n, by rw [hn]; exact hc⟩
  | cond x y z ihy ihz =>
    intro st r hc
    simp only [den] at hc ⊢
    split at hc
    · rename_i b hb
      cases b with
      | true =>
        simp only [if_true] at hc
        obtain ⟨n, hn⟩ := ihy hc
        exact ⟨n, by simpa using hn⟩
      | false =>
        simp only [if_false, Bool.false_eq_true] at hc
        obtain ⟨n, hn⟩ := ihz hc
        exact ⟨n, by simpa using hn⟩
    · cases hc
  | block id x ih =>
    intro st r hc
    simp only [den] at hc ⊢
    cases hx : den loopω L K Γ x st with
    | none => rw [hx] at hc; cases hc
    | some p =>
      obtain ⟨n, hn⟩ := ih hx
      exact ⟨n, by rw [hn]; rw [hx] at hc; exact hc⟩
  | loop x ih =>
    intro st r hc
    simp only [den] at hc ⊢
    obtain ⟨k, hk⟩ := of_loopω hc
    have key : ∀ (k : Nat) (st : St), loopF (fun s => den loopω L K Γ x (trim (K.heads.find? (·.1 == firstRegion x)) s)) k st = some r →
        ∃ n, loopF (fun s => den loopω L K (G n) x (trim (K.heads.find? (·.1 == firstRegion x)) s)) k st = some r := by
      intro k
      induction k with
      | zero => intro st h; simp [loopF] at h
      | succ k ihk =>
        intro st h
        unfold loopF at h ⊢
        cases hx : den loopω L K Γ x (trim (K.heads.find? (·.1 == firstRegion x)) st) with
        | none => rw [hx] at h; cases h
        | some p =>
          obtain ⟨e, s⟩ := p
          rw [hx] at h
          obtain ⟨n, hn⟩ := ih hx
          cases e with
          | normal =>
            obtain ⟨n', hn'⟩ := ihk s h
            refine ⟨max n n', ?_⟩
            rw [den_le (T.up n _ (Nat.le_max_left _ _)) hn]
            exact loopF_le' (fun st r hh => den_le (T.up n' _ (Nat.le_max_right _ _)) hh) hn'
          | exit i => exact ⟨n, by rw [hn]; exact h⟩
          | ret => exact ⟨n, by rw [hn]; exact h⟩
    obtain ⟨n, hn⟩ := key k st hk
    exact ⟨n, loopω_of hn⟩
  | _ => intro st r hc; exact ⟨0, by simpa only [den] using hc⟩

theorem runFn_le {Γ Γ' : Oracle} (h : Γ.Le Γ') {a : AFn} {tag : Nat} {args : List AV} {lent : List (Option (List AV))} {r : AV × List (Option (List AV))} (hc : runFn loopω L a Γ tag args lent = some r) :
    runFn loopω L a Γ' tag args lent = some r := by
  unfold runFn at *
  split
  · rename_i hx
    rw [if_pos hx] at hc
    cases hd : den loopω L a.ann Γ a.body { env := argEnv 0 args, heap := lentHeap tag 0 lent, next := 1, tag } with
    | none => rw [hd] at hc; cases hc
    | some p => rw [den_le h hd]; rw [hd] at hc; exact hc
  · rename_i hx; rw [if_neg hx] at hc; cases hc

theorem runFn_lim (T : Tower G Γ) {a : AFn} {tag : Nat} {args : List AV} {lent : List (Option (List AV))} {r : AV × List (Option (List AV))} (hc : runFn loopω L a Γ tag args lent = some r) :
    ∃ n, runFn loopω L a (G n) tag args lent = some r := by
  unfold runFn at *
  split at hc
  · rename_i hx
    cases hd : den loopω L a.ann Γ a.body { env := argEnv 0 args, heap := lentHeap tag 0 lent, next := 1, tag } with
    | none => rw [hd] at hc; cases hc
    | some p =>
      obtain ⟨n, hn⟩ := den_lim T hd
      exact ⟨n, by rw [if_pos hx, hn]; rw [hd] at hc; exact hc⟩
  · cases hc

theorem runFnH_le {Γ Γ' : Oracle} (h : Γ.Le Γ') {a : AFn} {tag : Nat} {args : List AV} {lent : List (Option (List AV))} {r : AV × List (Option (List AV))} (hc : runFnH loopω L a Γ tag args lent = some r) :
    runFnH loopω L a Γ' tag args lent = some r := by
  unfold runFnH at *
  split
  · rename_i hx
    rw [if_pos hx] at hc
    cases hd : den loopω L a.ann Γ a.body { env := argEnv 0 args, heap := hHeap tag lent, next := 1, tag } with
    | none => rw [hd] at hc; cases hc
    | some p => rw [den_le h hd]; rw [hd] at hc; exact hc
  · rename_i hx; rw [if_neg hx] at hc; cases hc

theorem runFnH_lim (T : Tower G Γ) {a : AFn} {tag : Nat} {args : List AV} {lent : List (Option (List AV))} {r : AV × List (Option (List AV))} (hc : runFnH loopω L a Γ tag args lent = some r) :
    ∃ n, runFnH loopω L a (G n) tag args lent = some r := by
  unfold runFnH at *
  split at hc
  · rename_i hx
    cases hd : den loopω L a.ann Γ a.body { env := argEnv 0 args, heap := hHeap tag lent, next := 1, tag } with
    | none => rw [hd] at hc; cases hc
    | some p =>
      obtain ⟨n, hn⟩ := den_lim T hd
      exact ⟨n, by rw [if_pos hx, hn]; rw [hd] at hc; exact hc⟩
  · cases hc

variable {T : Nat → Option Entry}

theorem callN_eq (lp : (St → Option (Ex × St)) → St → Option (Ex × St)) (n f : Nat) (t : Nat) (a : List AV) (l : List (Option (List AV))) : callN lp L T (n + 1) f t a l =
    (match T f with
    | none => none
    | some (.law o) => o t a l
    | some (.code x) => runFn lp L x (callN lp L T n) t a l
    | some (.hcode x) => match a with
      | .mapd [] [] :: as => runFnH lp L x (callN lp L T n) t as l
      | _ => none
    | some (.hlaw o) => match a with
      | .mapd [] [] :: as => o t as l
      | _ => none) := rfl

theorem callN_succ : ∀ n, (callN loopω L T n).Le (callN loopω L T (n + 1))
  | 0 => fun f t a l r h => by simp [callN] at h
  | n + 1 => fun f t a l r h => by
    rw [callN_eq] at h ⊢
    cases he : T f with
    | none => rw [he] at h; cases h
    | some e =>
      rw [he] at h
      cases e with
      | law o => exact h
      | code x => exact runFn_le (callN_succ n) h
      | hcode x =>
        simp only at h ⊢
        split at h
        · exact runFnH_le (callN_succ n) h
        · cases h
      | hlaw o => exact h

theorem callN_up (n m : Nat) (h : n ≤ m) : (callN loopω L T n).Le (callN loopω L T m) := by
  induction m with
  | zero => have : n = 0 := by omega
            subst this; exact fun _ _ _ _ _ x => x
  | succ m ih =>
    by_cases e : n = m + 1
    · subst e; exact fun _ _ _ _ _ x => x
    · exact fun f t a l r x => callN_succ m f t a l r (ih (by omega) f t a l r x)

theorem callω_of {n f : Nat} {t : Nat} {a : List AV} {l : List (Option (List AV))} {r : AV × List (Option (List AV))} (h : callN loopω L T n f t a l = some r) : callω L T f t a l = some r := by
  have hx : ∃ n, (callN loopω L T n f t a l).isSome := ⟨n, by rw [h]; rfl⟩
  unfold callω
  rw [dif_pos hx]
  obtain ⟨q, hq⟩ := Option.isSome_iff_exists.1 hx.choose_spec
  have h1 := callN_up n _ (Nat.le_max_left n hx.choose) f t a l r h
  have h2 := callN_up _ _ (Nat.le_max_right n hx.choose) f t a l q hq
  rw [h1] at h2
  rw [hq, ← h2]

theorem callω_tower : Tower (callN loopω L T) (callω L T) := by
  refine ⟨callN_up, fun f t a l r h => ?_, fun n f t a l r h => callω_of h⟩
  unfold callω at h
  split at h
  · exact ⟨_, h⟩
  · cases h

/-- What a function answers is what its code answers. -/
theorem callω_code {f : Nat} {x : AFn} (h : T f = some (.code x)) {tag : Nat} {args : List AV} {lent : List (Option (List AV))} : callω L T f tag args lent = runFn loopω L x (callω L T) tag args lent := by
  have up : ∀ r, runFn loopω L x (callω L T) tag args lent = some r → callω L T f tag args lent = some r := fun r hr => by
    obtain ⟨n, hn⟩ := runFn_lim callω_tower hr
    refine callω_of (n := n + 1) ?_
    rw [callN_eq, h]; exact hn
  have down : ∀ r, callω L T f tag args lent = some r → runFn loopω L x (callω L T) tag args lent = some r := fun r hr => by
    obtain ⟨n, hn⟩ := callω_tower.lim _ _ _ _ _ hr
    cases n with
    | zero => simp [callN] at hn
    | succ n =>
      rw [callN_eq, h] at hn
      exact runFn_le (callω_tower.below n) hn
  cases h1 : callω L T f tag args lent with
  | some r => exact (down r h1).symm
  | none =>
    cases h2 : runFn loopω L x (callω L T) tag args lent with
    | none => rfl
    | some r => rw [up r h2] at h1; cases h1

/-- What a function that takes memory answers. -/
theorem callω_hcode {f : Nat} {x : AFn} (h : T f = some (.hcode x)) {tag : Nat} {args : List AV} {lent : List (Option (List AV))} : callω L T f tag (.mapd [] [] :: args) lent = runFnH loopω L x (callω L T) tag args lent := by
  have up : ∀ r, runFnH loopω L x (callω L T) tag args lent = some r → callω L T f tag (.mapd [] [] :: args) lent = some r := fun r hr => by
    obtain ⟨n, hn⟩ := runFnH_lim callω_tower hr
    refine callω_of (n := n + 1) ?_
    rw [callN_eq, h]; exact hn
  have down : ∀ r, callω L T f tag (.mapd [] [] :: args) lent = some r → runFnH loopω L x (callω L T) tag args lent = some r := fun r hr => by
    obtain ⟨n, hn⟩ := callω_tower.lim _ _ _ _ _ hr
    cases n with
    | zero => simp [callN] at hn
    | succ n =>
      rw [callN_eq, h] at hn
      exact runFnH_le (callω_tower.below n) hn
  cases h1 : callω L T f tag (.mapd [] [] :: args) lent with
  | some r => exact (down r h1).symm
  | none =>
    cases h2 : runFnH loopω L x (callω L T) tag args lent with
    | none => rfl
    | some r => rw [up r h2] at h1; cases h1

theorem callω_law {f : Nat} {o : Nat → List AV → List (Option (List AV)) → Option (AV × List (Option (List AV)))} (h : T f = some (.law o)) {tag : Nat} {args : List AV} {lent : List (Option (List AV))} :
    callω L T f tag args lent = o tag args lent := by
  have up : ∀ r, o tag args lent = some r → callω L T f tag args lent = some r := fun r hr => callω_of (n := 1) (by rw [callN_eq, h]; exact hr)
  have down : ∀ r, callω L T f tag args lent = some r → o tag args lent = some r := fun r hr => by
    obtain ⟨n, hn⟩ := callω_tower.lim _ _ _ _ _ hr
    cases n with
    | zero => simp [callN] at hn
    | succ n => rw [callN_eq, h] at hn; exact hn
  cases h1 : callω L T f tag args lent with
  | some r => exact (down r h1).symm
  | none =>
    cases h2 : o tag args lent with
    | none => rfl
    | some r => rw [up r h2] at h1; cases h1

theorem callω_hlaw {f : Nat} {o : Nat → List AV → List (Option (List AV)) → Option (AV × List (Option (List AV)))} (h : T f = some (.hlaw o)) {tag : Nat} {args : List AV} {lent : List (Option (List AV))} :
    callω L T f tag (.mapd [] [] :: args) lent = o tag args lent := by
  have up : ∀ r, o tag args lent = some r → callω L T f tag (.mapd [] [] :: args) lent = some r := fun r hr => callω_of (n := 1) (by rw [callN_eq, h]; exact hr)
  have down : ∀ r, callω L T f tag (.mapd [] [] :: args) lent = some r → o tag args lent = some r := fun r hr => by
    obtain ⟨n, hn⟩ := callω_tower.lim _ _ _ _ _ hr
    cases n with
    | zero => simp [callN] at hn
    | succ n => rw [callN_eq, h] at hn; exact hn
  cases h1 : callω L T f tag (.mapd [] [] :: args) lent with
  | some r => exact (down r h1).symm
  | none =>
    cases h2 : o tag args lent with
    | none => rfl
    | some r => rw [up r h2] at h1; cases h1

/-! ## by computation -/

theorem den_fuel {Γ : Oracle} (k : Nat) : ∀ {code : Code} {st : St} {r : Ex × St}, den (fun f => loopF f k) L K Γ code st = some r → den loopω L K Γ code st = some r := by
  intro code
  induction code with
  | region id ops draw => intro st r hc; simpa only [den] using hc
  | seq x y ihx ihy =>
    intro st r hc
    simp only [den] at hc ⊢
    cases hx : den (fun f => loopF f k) L K Γ x st with
    | none => rw [hx] at hc; cases hc
    | some p =>
      obtain ⟨e, s⟩ := p
      rw [ihx hx]
      rw [hx] at hc
      cases e with
      | normal => exact ihy hc
      | exit i => exact hc
      | ret => exact hc
  | cond x y z ihy ihz =>
    intro st r hc
    simp only [den] at hc ⊢
    split
    · rename_i b hb
      rw [hb] at hc
      simp only at hc
      cases b with
      | true => simp only [if_true] at hc ⊢; exact ihy hc
      | false => simp only [if_false, Bool.false_eq_true] at hc ⊢; exact ihz hc
    · rename_i hx
      split at hc
      · rename_i b hb; exact (hx b hb).elim
      · cases hc
  | block id x ih =>
    intro st r hc
    simp only [den] at hc ⊢
    cases hx : den (fun f => loopF f k) L K Γ x st with
    | none => rw [hx] at hc; cases hc
    | some p => rw [ih hx]; rw [hx] at hc; exact hc
  | loop x ih =>
    intro st r hc
    simp only [den] at hc ⊢
    exact loopω_of (loopF_le' (fun st r hh => ih hh) hc)
  | _ => intro st r hc; simpa only [den] using hc

theorem callN_fuel (k : Nat) : ∀ n, (callN (fun f => loopF f k) L T n).Le (callN loopω L T n)
  | 0 => fun f t a l r h => by simp [callN] at h
  | n + 1 => fun f t a l r h => by
    rw [callN_eq] at h ⊢
    cases he : T f with
    | none => rw [he] at h; cases h
    | some e =>
      rw [he] at h
      cases e with
      | law o => exact h
      | code x =>
        simp only at h ⊢
        refine runFn_le (callN_fuel k n) ?_
        unfold runFn at *
        split
        · rename_i hx
          rw [if_pos hx] at h
          cases hd : den (fun f => loopF f k) L x.ann (callN (fun f => loopF f k) L T n) x.body { env := argEnv 0 a, heap := lentHeap t 0 l, next := 1, tag := t } with
          | none => rw [hd] at h; cases h
          | some p => rw [den_fuel k hd]; rw [hd] at h; exact h
        · rename_i hx; rw [if_neg hx] at h; cases h
      | hcode x =>
        simp only at h ⊢
        split at h
        · rename_i as
          refine runFnH_le (callN_fuel k n) ?_
          unfold runFnH at *
          split
          · rename_i hx
            rw [if_pos hx] at h
            cases hd : den (fun f => loopF f k) L x.ann (callN (fun f => loopF f k) L T n) x.body { env := argEnv 0 as, heap := hHeap t l, next := 1, tag := t } with
            | none => rw [hd] at h; cases h
            | some p => rw [den_fuel k hd]; rw [hd] at h; exact h
          · rename_i hx; rw [if_neg hx] at h; cases h
        · cases h
      | hlaw o => exact h

/-- A call that can be computed. -/
theorem callω_run (k n : Nat) {f : Nat} {t : Nat} {a : List AV} {l : List (Option (List AV))} {r : AV × List (Option (List AV))} (h : callN (fun f => loopF f k) L T n f t a l = some r) : callω L T f t a l = some r :=
  callω_of (callN_fuel k n f t a l r h)

end

end Go.Sim
