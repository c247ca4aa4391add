/- Guarded operations: what a guard says is known behind it. -/
import Derived.Test.YtmckiigefkfpaaaDoorSimFacts
set_option linter.unusedVariables false
set_option linter.unusedSimpArgs false
namespace Go.Sim
open Go

theorem aput_same {α : Type} {k : Nat} {v : α} : ∀ {l : List (Nat × α)}, aget k l = some v → aput k v l = l
  | (j, u) :: l, h => by
    simp only [aget] at h
    simp only [aput]
    by_cases e : j = k
    · rw [if_pos e] at h ⊢
      simp only [Option.some.injEq] at h
      subst e h; rfl
    · rw [if_neg e] at h ⊢
      rw [aput_same h]

section
variable {F : Fx} {ks : List Fr} {st : St} {ops l : List Oper} {d : Option Nat} {op : Op} {ty : Nat} {pos : String} {after : Array Edge} {want : Bool}

/-- A guarded operation, its guard's slot at hand. -/
noncomputable def guardS (F : Fx) (ops l : List Oper) (ks : List Fr) (d : Option Nat) (op : Op) (ty d0 : Nat) (want : Bool) (st : St) (v : Option AV) : Ans := match v with
  | some (.bool b) => if b = want then stepK F ops l ks d (denOp F.L F.K F.Γ (putD st (some d0) (.bool want)) (d.getD 0) ty op) else goOps F ops l ks (putD (putD st (some d0) (.bool (!want))) d (.tup []))
  | some (.tup []) => goOps F ops l ks (putD st d (.tup []))
  | _ => none

noncomputable def guardR (F : Fx) (ops l : List Oper) (ks : List Fr) (d : Option Nat) (op : Op) (ty : Nat) (want : Bool) (st : St) (s : Option Nat) : Ans := match s with
  | some d0 => guardS F ops l ks d op ty d0 want st (aget d0 st.env)
  | none => none

theorem goOps_guardR {j : Nat} (h : d.getD 0 < F.K.nt) :
    goOps F ops (⟨d, op, ty, pos, after, some (j, want)⟩ :: l) ks st = guardR F ops l ks d op ty want st ((ops[j]?).bind (·.dst)) := by
  rw [goOps_guard h]
  simp only [runs]
  cases (ops[j]?).bind (·.dst) with
  | none => rfl
  | some d0 =>
    simp only [guardR, guardS]
    cases hv : aget d0 st.env with
    | none => rfl
    | some v =>
      cases v <;> try rfl
      · rename_i b
        simp only
        by_cases e : b = want
        · subst e
          have : putD st (some d0) (.bool b) = st := by
            show { st with env := aput d0 (.bool b) st.env } = st
            rw [aput_same hv]
          simp only [beq_self_eq_true, if_true, this]
          rfl
        · have hb : b = !want := by cases b <;> cases want <;> simp_all
          subst hb
          have : putD st (some d0) (.bool (!want)) = st := by
            show { st with env := aput d0 (.bool (!want)) st.env } = st
            rw [aput_same hv]
          have h2 : ((!want) == want) = false := by cases want <;> rfl
          rw [if_neg e, this, h2]
          rfl
      · rename_i vs
        cases vs <;> rfl

theorem guardR_some {d0 : Nat} : guardR F ops l ks d op ty want st (some d0) = guardS F ops l ks d op ty d0 want st (aget d0 st.env) := rfl
theorem guardS_bool {d0 : Nat} {b : Bool} : guardS F ops l ks d op ty d0 want st (some (.bool b)) = if b = want then stepK F ops l ks d (denOp F.L F.K F.Γ (putD st (some d0) (.bool want)) (d.getD 0) ty op) else goOps F ops l ks (putD (putD st (some d0) (.bool (!want))) d (.tup [])) := rfl
theorem guardS_tup {d0 : Nat} : guardS F ops l ks d op ty d0 want st (some (.tup [])) = goOps F ops l ks (putD st d (.tup [])) := rfl
theorem guardR_congr {s s' : Option Nat} (h : s = s') : guardR F ops l ks d op ty want st s = guardR F ops l ks d op ty want st s' := h ▸ rfl
theorem guardS_congr {d0 : Nat} {v v' : Option AV} (h : v = v') : guardS F ops l ks d op ty d0 want st v = guardS F ops l ks d op ty d0 want st v' := h ▸ rfl
end

end Go.Sim
