/- Tables, checked by the kernel: types, functions. -/
import Derived.Test.YtmckiigefkfpaaaDoorSimLaw
set_option linter.unusedVariables false
set_option linter.unusedSimpArgs false
namespace Go.Sim
open Go

/-! ## types -/

def tdB (P : Program) : TD → TypeDesc → Bool
  | .bool, .bool => true
  | .int k, .int k' => decide (k = k')
  | .str, .string => true
  | .ptr e, .pointer e' => e == e'
  | .slice e, .slice e' => e == e'
  | .arr n e, .array n' e' => n == n' && e == e'
  | .strct fs, .struct fs' => fs'.toList.map (fun f => (f.offset, f.type)) == fs && fs'.toList.all (fun f => (P.info? f.type).isSome)
  | .func, .func _ _ _ => true
  | .map k e, .map k' e' => k == k' && e == e'
  | .iface, .interface _ => true
  | .opq, .struct _ => true
  | .other, .interface _ => true
  | .other, .map _ _ => true
  | .other, .tuple _ => true
  | _, _ => false

theorem tdB_ok {P : Program} {d : TD} {d' : TypeDesc} (h : tdB P d d' = true) : TDOK P d d' := by
  cases d <;> cases d' <;> simp_all [tdB, TDOK]

def tiB (P : Program) (p : Nat × TI) : Bool :=
  match P.info? p.1, P.underlying p.1 with
  | some info, some d => tdB P p.2.desc d && (info.size == p.2.size && (info.bytes == p.2.bytes && match info.zero with
    | some z => match ofCells z.cells.toList with
      | some cs => samePs cs p.2.zero && (eqOkD P p.1 p.2.desc d && p.2.isAgg == isAggV z)
      | none => false
    | none => false))
  | _, _ => false

theorem tiB_ok {P : Program} {t : Nat} {i : TI} (h : tiB P (t, i) = true) : TIOK P t i := by
  unfold tiB at h
  split at h
  · rename_i info d h1 h2
    simp only [Bool.and_eq_true, beq_iff_eq] at h
    obtain ⟨h3, h4, h5, h6⟩ := h
    split at h6
    · rename_i z hz
      split at h6
      · rename_i cs hc
        simp only [Bool.and_eq_true, beq_iff_eq] at h6
        exact ⟨info, d, z, h1, h2, tdB_ok h3, h4, h5, hz, by rw [hc, samePs_ok h6.1], h6.2.1, h6.2.2⟩
      · cases h6
    · cases h6
  · cases h

theorem aget_mem {α : Type} {k : Nat} {v : α} : ∀ {l : List (Nat × α)}, aget k l = some v → (k, v) ∈ l
  | (j, u) :: l, h => by
    simp only [aget] at h
    split at h
    · rename_i e; subst e; simp only [Option.some.injEq] at h; subst h; simp
    · exact List.mem_cons_of_mem _ (aget_mem h)

theorem lok {P : Program} {Ls : List (Nat × TI)} (h : Ls.all (tiB P) = true) : LOK P (fun t => aget t Ls) := fun t i hi => tiB_ok (List.all_eq_true.1 h _ (aget_mem hi))

/-! ## functions -/

noncomputable def mkA (fn : Func) (cross : List Nat) (heads : List (Nat × List Nat × List Nat)) (own frz : List Nat) (reads : List (Nat × List Nat)) (stores : List (Nat × Nat)) (ro hp : List Nat) : AFn :=
  { body := fn.body.getD .skip, np := fn.params.size + fn.nfree, results := fn.results.toList, ann := { nt := fn.ntmps, cross, heads, own, reads, stores, ro, hp }, frz }

def fnB (L : Nat → Option TI) (own : List Nat) (reads : List (Nat × List Nat)) (stores : List (Nat × Nat)) (ro hp : List Nat) (fn : Func) : Bool := fn.body.isSome && (!(fn.name == "runtime.NumGoroutine") && (decide (fn.params.size + fn.nfree ≤ fn.ntmps ∧ fn.ntmps ≤ 500000) && drawsOk L { nt := fn.ntmps, cross := [], heads := [], own, reads, stores, ro, hp } (fn.body.getD .skip)))

theorem drawsOk_own {L : Nat → Option TI} {K K' : Ann} (h : K'.own = K.own) (h2 : K'.reads = K.reads) (h3 : K'.stores = K.stores) (h4 : K'.ro = K.ro) (h5 : K'.hp = K.hp) : ∀ c, drawsOk L K c = drawsOk L K' c := by
  have hs : ∀ a, K.storeAt a = K'.storeAt a := fun a => by cases a <;> simp only [Ann.storeAt, h3]
  have hm : ∀ d op, fpOf L K d op = fpOf L K' d op := fun d op => by cases op <;> simp only [fpOf, h, h2, h4, h5, hs]
  have ht : ∀ ops x y, turnOk L K ops x y = turnOk L K' ops x y := fun ops x y => by simp only [turnOk, hm]
  intro c
  induction c <;> simp_all [drawsOk, drawOk]

/-- Of the package variables that a function reads. -/
def rdB (P : Program) (p : Nat × List Nat) : Bool := Nat.blt p.1 1000000000 || errG P (p.1 - 1000000000)

theorem rdB_ok {P : Program} {l : List (Nat × List Nat)} (h : l.all (rdB P) = true) (g : Nat) (hg : (aget (1000000000 + g) l).isSome = true) : errG P g = true := by
  obtain ⟨v, hv⟩ := Option.isSome_iff_exists.1 hg
  have := List.all_eq_true.1 h _ (aget_mem hv)
  simp only [rdB, Bool.or_eq_true] at this
  rcases this with h | h
  · rw [Nat.blt_eq] at h; omega
  · rwa [show 1000000000 + g - 1000000000 = g from by omega] at h

theorem mkA_ok {P : Program} {L : Nat → Option TI} {f : Nat} {fn : Func} {cross : List Nat} {heads : List (Nat × List Nat × List Nat)} {own frz : List Nat} {reads : List (Nat × List Nat)} {stores : List (Nat × Nat)} {ro hp : List Nat} (hf : P.funcs[f]? = some fn) (hb : fnB L own reads stores ro hp fn = true) (hrd : reads.all (rdB P) = true := by kernel_rfl) : FnOK P L f (mkA fn cross heads own frz reads stores ro hp) := by
  simp only [fnB, Bool.and_eq_true, decide_eq_true_eq, Bool.not_eq_true'] at hb
  obtain ⟨h1, h2, ⟨h4, h4'⟩, h6⟩ := hb
  obtain ⟨c, hc⟩ := Option.isSome_iff_exists.1 h1
  refine ⟨?_, ⟨fn, hf, by simp [mkA, hc], rfl, rfl⟩, fun args w => ?_, h4, h4', rdB_ok hrd⟩
  · exact (drawsOk_own (K := (mkA fn cross heads own frz reads stores ro hp).ann) (K' := { nt := fn.ntmps, cross := [], heads := [], own, reads, stores, ro, hp }) rfl rfl rfl rfl rfl (fn.body.getD .skip)).trans h6
  · have h5 : fn.name ≠ "runtime.NumGoroutine" := by simpa using h2
    simp [callFunc, hf, h5, hc, mark]

/-- A table: functions, functions that take memory, laws of either kind. -/
noncomputable def tabT (X Y : List (Nat × (Nat → List AV → List (Option (List AV)) → Option (AV × List (Option (List AV)))))) (Ts Hs : List (Nat × AFn)) (f : Nat) : Option Entry :=
  match Nat.blt f 1000000000 with
  | true => match aget f X with
    | some o => some (.law o)
    | none => (aget f Ts).map .code
  | false => match aget (f - 1000000000) Y with
    | some o => some (.hlaw o)
    | none => (aget (f - 1000000000) Hs).map .hcode

theorem tokT {P : Program} {L : Nat → Option TI} {X Y : List (Nat × (Nat → List AV → List (Option (List AV)) → Option (AV × List (Option (List AV)))))} {Ts Hs : List (Nat × AFn)}
    (hX : ∀ p ∈ X, ∀ tag args lent r lent', p.2 tag args lent = some (r, lent') → CallOK P p.1 tag args lent r lent')
    (hY : ∀ p ∈ Y, ∀ tag args lent r lent', p.2 tag args lent = some (r, lent') → CallOKH P p.1 tag args lent r lent')
    (h : ∀ p ∈ Ts, FnOK P L p.1 p.2) (h' : ∀ p ∈ Hs, FnOK P L p.1 p.2) : TableOK P L (tabT X Y Ts Hs) := fun f e he => by
  unfold tabT at he
  cases hb : Nat.blt f 1000000000 with
  | true =>
    have hlt : f < 1000000000 := by simpa [Nat.blt_eq] using hb
    rw [hb] at he
    simp only at he
    cases hx : aget f X with
    | some o =>
      simp only [hx, Option.some.injEq] at he
      subst he
      exact ⟨hlt, hX _ (aget_mem hx)⟩
    | none =>
      simp only [hx, Option.map_eq_some_iff] at he
      obtain ⟨a, ha, rfl⟩ := he
      exact ⟨hlt, h _ (aget_mem ha)⟩
  | false =>
    have hge : ¬ f < 1000000000 := fun hlt => by
      have : Nat.blt f 1000000000 = true := by simpa [Nat.blt_eq] using hlt
      rw [hb] at this; cases this
    have hf : f = f - 1000000000 + 1000000000 := (Nat.sub_add_cancel (Nat.le_of_not_lt hge)).symm
    rw [hb] at he
    simp only at he
    generalize f - 1000000000 = g at he hf
    cases hx : aget g Y with
    | some o =>
      simp only [hx, Option.some.injEq] at he
      subst he
      exact ⟨g, hf, hY _ (aget_mem hx)⟩
    | none =>
      simp only [hx, Option.map_eq_some_iff] at he
      obtain ⟨a, ha, rfl⟩ := he
      exact ⟨g, hf, h' _ (aget_mem ha)⟩

end Go.Sim
