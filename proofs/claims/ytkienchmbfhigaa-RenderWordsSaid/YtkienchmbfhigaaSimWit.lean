/- A start that fits, for arguments of many cells: the check runs along the cells. -/
import Derived.Test.YtkienchmbfhigaaSimLaw
set_option linter.unusedVariables false
namespace Go.Sim
open Go

def rowFast (P : Program) (w : World) : List TypeId → List Value → Bool
  | [], [] => true
  | t :: ts, v :: vs => Cell.okWideB P w t v && rowFast P w ts vs
  | _, _ => false

def valFast (P : Program) (w : World) (t : TypeId) (v : Value) : Bool :=
  match v with
  | .agg cs => match P.cellTypes P.depth t with
    | some ts => Nat.beq cs.toList.length (P.cellsOf t) && rowFast P w ts cs.toList && (match P.underlying t with
      | some (.struct _) | some (.array _ _) => true
      | _ => false)
    | none => false
  | v => Value.okWideB P w t v

def argsFast (P : Program) (w : World) : List TypeId → List Value → Bool
  | [], [] => true
  | t :: ts, v :: vs => valFast P w t v && argsFast P w ts vs
  | _, _ => false

def inFast (P : Program) (w : World) (f : FuncId) (args : Array Value) : Bool :=
  (P.inits.idxOf? f).isNone &&
  match P.funcs[f]? with
  | some fn => fn.body.isSome && !fn.ours && fn.nfree == 0 && argsFast P w fn.params.toList args.toList
  | none => false

theorem rowFast_ok {P : Program} {w : World} : ∀ (ts : List TypeId) (vs : List Value), rowFast P w ts vs = true → vs.length = ts.length ∧ ∀ (i : Nat) (v : Value), vs[i]? = some v → ∃ u, ts[i]? = some u ∧ Cell.okWide P w .any 0 u v
  | [], [], _ => ⟨rfl, fun i v h => by simp at h⟩
  | t :: ts, v :: vs, h => by
    simp only [rowFast, Bool.and_eq_true] at h
    obtain ⟨h1, h2⟩ := rowFast_ok ts vs h.2
    refine ⟨by simp [h1], fun i x hx => ?_⟩
    cases i with
    | zero =>
      simp only [List.getElem?_cons_zero, Option.some.injEq] at hx
      subst hx
      exact ⟨t, rfl, Cell.okWide_of_okWideB h.1⟩
    | succ i => simpa using h2 i x (by simpa using hx)
  | [], _ :: _, h => by cases h
  | _ :: _, [], h => by cases h

theorem okWide_base {P : Program} {w : World} {r : Reach} {b b' : Nat} {t : TypeId} {v : Value} (hr : r = .any) (h : Cell.okWide P w r b t v) : Cell.okWide P w r b' t v := by
  subst hr
  exact h

theorem valFast_ok {P : Program} {w : World} {t : TypeId} {v : Value} (h : valFast P w t v = true) : Value.okWide P w .any 0 t v := by
  unfold valFast at h
  split at h
  · rename_i cs
    split at h
    · rename_i ts hts
      simp only [Bool.and_eq_true] at h
      obtain ⟨⟨h1, h2⟩, h3⟩ := h
      have h1 := Nat.eq_of_beq_eq_true h1
      obtain ⟨g1, g2⟩ := rowFast_ok ts cs.toList h2
      have hrow : Row.okWide P w .any 0 t cs := by
        refine ⟨ts, hts, ⟨1, by rw [Nat.one_mul, ← g1]; simp⟩, fun i v hv => ?_⟩
        have hi : i < cs.size := (Array.getElem?_eq_some_iff.1 hv).1
        obtain ⟨u, q1, q2⟩ := g2 i v (by simpa using hv)
        have : i < ts.length := by rw [← g1]; simpa using hi
        exact ⟨u, by rw [Nat.mod_eq_of_lt this]; exact q1, q2⟩
      have hsz : cs.size = P.cellsOf t := by rw [← h1]; simp
      unfold Value.okWide
      split
      · exact ⟨cs, rfl, hsz, hrow⟩
      · exact ⟨cs, rfl, hsz, hrow⟩
      · rename_i n1 n2
        split at h3
        · rename_i fs hu; exact absurd hu (n1 fs)
        · rename_i n e hu; exact absurd hu (n2 n e)
        · cases h3
    · cases h
  · exact Value.okWide_of_okWideB h

theorem argsFast_ok {P : Program} {w : World} : ∀ (ts : List TypeId) (vs : List Value), argsFast P w ts vs = true → vs.length = ts.length ∧ ∀ (j : Nat) t v, ts[j]? = some t → vs[j]? = some v → Value.okWide P w .any 0 t v
  | [], [], _ => ⟨rfl, fun i t v h => by simp at h⟩
  | t :: ts, v :: vs, h => by
    simp only [argsFast, Bool.and_eq_true] at h
    obtain ⟨h1, h2⟩ := argsFast_ok ts vs h.2
    refine ⟨by simp [h1], fun i u x hu hx => ?_⟩
    cases i with
    | zero =>
      simp only [List.getElem?_cons_zero, Option.some.injEq] at hx hu
      subst hx; subst hu
      exact valFast_ok h.1
    | succ i => exact h2 i u x (by simpa using hu) (by simpa using hx)
  | [], _ :: _, h => by cases h
  | _ :: _, [], h => by cases h

theorem inFast_ok {P : Program} {w : World} {f : FuncId} {args : Array Value} (h : inFast P w f args = true) : Input.okWide P w .any 0 f ⟨#[], args, []⟩ := by
  unfold inFast at h
  simp only [Bool.and_eq_true, Option.isNone_iff_eq_none] at h
  obtain ⟨h1, h2⟩ := h
  split at h2
  · rename_i fn hfn
    simp only [Bool.and_eq_true, Bool.not_eq_true', beq_iff_eq] at h2
    obtain ⟨⟨⟨a1, a2⟩, a3⟩, a4⟩ := h2
    obtain ⟨q1, q2⟩ := argsFast_ok _ _ a4
    exact ⟨fun o ho => by simp at ho, fun gv hg => by simp at hg, h1, fn, hfn, a1, a2, a3, by simpa using q1, fun j t v ht hv => q2 j t v (by simpa using ht) (by simpa using hv)⟩
  · cases h2

theorem witFast {H : Type} {enc : TypeId × Value → H} {C : Checked} {os : Os} {f : FuncId} {fn : Func} {s : ChangeSpec} {conds : List PathCond} {apart : Bool} (i : Input) (fuel : Nat)
    (hv : (World.plainHolding C.prog os i).variablesB C.prog = true)
    (hr : ((World.plainHolding C.prog os i).heap.toList.drop C.prog.globals.size).take ((begin C.prog (fun _ _ => 0) default).world.heap.size - C.prog.globals.size) =
      (begin C.prog (fun _ _ => 0) default).world.heap.toList.drop C.prog.globals.size)
    (hok : inFast C.prog (World.plainHolding C.prog os i) f i.args = true)
    (hpre : s.preB enc C.prog fn conds apart (World.plainHolding C.prog os i).memory i.args fuel = true)
    (hsz : s.sizedB enc C.prog fn apart (World.plainHolding C.prog os i).memory i.args fuel = true) :
    ∃ (w : World) (tape : Tape) (i : Input), w.os = os ∧ (w.forCall tape i).Shaped C.prog ∧ i.vars = [] ∧ Input.okWide C.prog (w.forCall tape i) .any w.heap.size f i ∧
      s.pre6 enc C.prog fn conds apart (w.forCall tape i).memory i.args ∧ ({} : Assume).holds C.prog (lone (Frame.enter C.prog f i.args .normal) [] (w.forCall tape i)) := by
  refine ⟨World.holding C.prog os i, fun _ _ => 0, ⟨#[], i.args, []⟩, rfl, World.shaped_of_B hv hr, rfl, inFast_ok hok, ⟨ChangeSpec.pre_of_preB hpre, sizedMet_of_sizedB hsz⟩, ?_⟩
  simp only [Assume.holds]
  exact ⟨by simp, by simp, by simp, by simp, by simp⟩

end Go.Sim
