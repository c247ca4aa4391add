/- What a row's list of laid package variables tells the interpreter: errors of errors.New, one each. -/
import Derived.Test.YtmckiigefkfpaaaDoorSimLaid
set_option linter.unusedVariables false
set_option linter.unusedSimpArgs false
namespace Go.Sim
open Go Go.RowKit Go.ChangeShapes Go.WideShapes

section
variable {P : Program} {W : World}

/-- The closed facts on the type of such errors: their name, the pointer's row, the struct's, its one field a text. -/
structure ErrTy (P : Program) (nm : String) (ti tp te ts : TypeId) : Prop where
  row : ∀ u, P.typeName? 3 u = some nm → u = tp
  ptr : P.underlying tp = some (.pointer te)
  str : ∃ f : Field, P.underlying te = some (.struct #[f]) ∧ f.type = ts ∧ f.offset = 0
  txt : P.underlying ts = some .string
  ce : P.cellsOf te = 1
  cs : P.cellsOf ts = 1
  ifc : ∃ ms, P.underlying ti = some (.interface ms)
  cmp : ∃ i, P.info? tp = some i ∧ i.comparable = true
  one : ∃ j, P.info? te = some j ∧ j.size = 1

theorem ErrTy.of {nm nm0 : String} {ti tp te ts : TypeId} {f : Field} {ms : Array (String × TypeId)} (hnm : "*" ++ nm0 = nm) (h1 : ((List.range P.types.size).all fun u => P.typeName? 3 u != some ("*" ++ nm0) || u == tp) = true)
    (h2 : ((List.range P.types.size).all fun e => P.typeName? 2 e != some nm0 || (match (P.info? e).map (·.desc) with | some (TypeDesc.named _ _) => true | _ => false)) = true) (h3 : nm0.toList.head? ≠ some (Char.ofNat 42))
    (h4 : P.underlying tp = some (.pointer te)) (h5 : P.underlying te = some (.struct #[f])) (h6 : f.type = ts) (h7 : f.offset = 0) (h8 : P.underlying ts = some .string) (h9 : P.cellsOf te = 1) (h10 : P.cellsOf ts = 1) (h11 : P.underlying ti = some (.interface ms))
    (h12 : (match P.info? tp with | some i => i.comparable | none => false) = true) (h13 : (match P.info? te with | some i => i.size == 1 | none => false) = true) : ErrTy P nm ti tp te ts where
  row := fun u h => typeName_ptr_named (nm := nm0) h1 h2 h3 u (by rw [hnm]; exact h)
  ptr := h4
  str := ⟨f, h5, h6, h7⟩
  txt := h8
  ce := h9
  cs := h10
  ifc := ⟨ms, h11⟩
  cmp := by
    split at h12
    · rename_i i hi; exact ⟨i, hi, h12⟩
    · cases h12
  one := by
    split at h13
    · rename_i i hi; exact ⟨i, hi, by simpa using h13⟩
    · cases h13

/-- A laid error. -/
def isErrD (nm : String) : DataW Unit → Bool
  | .iface n (.ptr (.agg [.lit (.string _)])) => n == nm
  | _ => false

theorem laid_entries {nm : String} {ti tp te ts : TypeId} (hT : ErrTy P nm ti tp te ts) {all : List MemPlace}
    (hok : ∀ b off, MemPlace.cell b off ∈ all → ∀ u v, W.cell? ⟨b, off, none⟩ = some (.iface u v) → Value.okWide P W .any 0 u v) :
    ∀ (l : List (String × DataW Unit)) (ps : List MemPlace), DataW.LaidVars P W l ps → (∀ x ∈ ps, x ∈ all) → (∀ x ∈ l, isErrD nm x.2 = true) → (∀ x ∈ l, ∀ g, P.globalNamed x.1 = some g → (P.globals[g]?).map (·.type) = some ti) →
    ∃ E : List (Nat × Addr), (E.map fun e => MemPlace.cell e.2.block e.2.off).Sublist ps ∧ (∀ e ∈ E, W.cell? ⟨e.1, 0, none⟩ = some (.iface tp (.pointer (some e.2)))) ∧ (∀ x ∈ l, ∃ e ∈ E, P.globalNamed x.1 = some e.1) ∧ ∀ e ∈ E, ∃ x ∈ l, P.globalNamed x.1 = some e.1
  | [], ps, h, _, _, _ => ⟨[], by simp, by simp, by simp, by simp⟩
  | (n, d) :: l, ps, h, hin, hd, hg => by
    obtain ⟨g, t, cs, fuel, p, q, h1, h2, h3, h4, h5, rfl⟩ := h
    have ht : t = ti := by
      have := hg (n, d) (by simp) g h1
      rw [h2] at this
      exact Option.some.inj this
    subst ht
    have hd0 := hd (n, d) (by simp)
    simp only at hd0
    unfold isErrD at hd0
    split at hd0
    · rename_i nm' text
      have hnm : nm' = nm := by simpa using hd0
      subst hnm
      obtain ⟨f, f1, f2, f3⟩ := hT.str
      obtain ⟨ms, hms⟩ := hT.ifc
      have hcell : ∀ u v, cs.toList = [.iface u v] → W.cell? ⟨g, 0, none⟩ = some (.iface u v) := fun u v e => by
        have : cs = #[.iface u v] := by apply Array.ext'; simpa using e
        subst this
        simpa using World.var?_cell h1 h3 0
      have hsz : ∀ u v, cs.toList = [.iface u v] → MemPlace.cell g 0 ∈ MemPlace.row ⟨g, 0, none⟩ cs.size := fun u v e => by
        have : cs = #[.iface u v] := by apply Array.ext'; simpa using e
        subst this
        simp [MemPlace.row]
      obtain ⟨a, s, e1, e2, e3, e4, e5⟩ := errorString_of_trod hms hT.row hT.ptr f1 f2 f3 hT.txt hT.ce hT.cs h4 (fun u v e => hok g 0 (hin _ (by
        rw [List.append_assoc]
        exact List.mem_append_left _ (hsz u v e))) u v (hcell u v e))
      obtain ⟨E, k1, k2, k4, k5⟩ := laid_entries hT hok l q h5 (fun x hx => hin x (List.mem_append_right _ hx)) (fun x hx => hd x (List.mem_cons_of_mem _ hx)) (fun x hx => hg x (List.mem_cons_of_mem _ hx))
      refine ⟨(g, a) :: E, ?_, ?_, ?_, ?_⟩
      · subst e5
        simp only [List.map_cons]
        have hrow : MemPlace.row a 1 = [.cell a.block a.off] := by simp [MemPlace.row]
        rw [hrow, List.append_assoc]
        exact (List.Sublist.cons_cons _ k1).trans (List.sublist_append_right _ _)
      · intro e he
        rcases List.mem_cons.1 he with rfl | he
        · exact hcell _ _ e1
        · exact k2 e he
      · intro x hx
        rcases List.mem_cons.1 hx with rfl | hx
        · exact ⟨_, List.mem_cons_self, h1⟩
        · obtain ⟨e, he, hh⟩ := k4 x hx
          exact ⟨e, List.mem_cons_of_mem _ he, hh⟩
      · intro e he
        rcases List.mem_cons.1 he with rfl | he
        · exact ⟨_, List.mem_cons_self, h1⟩
        · obtain ⟨x, hx, hh⟩ := k5 e he
          exact ⟨x, List.mem_cons_of_mem _ hx, hh⟩
    · cases hd0

theorem nodup_map_inj {α β : Type} {f : α → β} : ∀ {l : List α}, (l.map f).Nodup → ∀ x ∈ l, ∀ y ∈ l, f x = f y → x = y
  | [], _, x, hx, _, _, _ => by cases hx
  | z :: l, h, x, hx, y, hy, e => by
    simp only [List.map_cons, List.nodup_cons] at h
    rcases List.mem_cons.1 hx with rfl | hx' <;> rcases List.mem_cons.1 hy with rfl | hy'
    · rfl
    · exact (h.1 (e ▸ List.mem_map_of_mem hy')).elim
    · exact (h.1 (e ▸ List.mem_map_of_mem hx')).elim
    · exact nodup_map_inj h.2 x hx' y hy' e

/-- What the condition on laid variables tells: all errors of the program are among them, and they are so. -/
theorem glob_of_laid {nm : String} {ti tp te ts : TypeId} (hT : ErrTy P nm ti tp te ts) {laid : List (String × DataW Unit)} (hL : laidMetH P laid W)
    (hno : (laid.filter fun x => x.2.handleName?.isSome) = []) (hd : laid.all (fun x => isErrD nm x.2) = true)
    (hg : laid.all (fun x => match P.globalNamed x.1 with | some g => (P.globals[g]?).map (·.type) == some ti | none => false) = true)
    (hall : (List.range P.globals.size).all (fun g => !errG P g || laid.any fun x => P.globalNamed x.1 == some g) = true) :
    ∃ gl, GlobP P gl ∧ GlobS ⟨W, [], ⟨fun _ => (0, 0), fun _ => 0, W.heap.size, fun _ _ => False, gl⟩, 0, 1⟩ := by
  have hM : laidMet P laid W := by
    unfold laidMetH at hL
    rw [hno] at hL
    exact hL
  obtain ⟨ps, hv, hnd, hrows⟩ := hM
  have hg' : ∀ x ∈ laid, ∀ g, P.globalNamed x.1 = some g → (P.globals[g]?).map (·.type) = some ti := fun x hx g e => by
    have := List.all_eq_true.1 hg x hx
    rw [e] at this
    simpa using this
  obtain ⟨E, k1, k2, k4, k5⟩ := laid_entries hT (all := ps) (fun b off hb u v hc => (hrows b off hb).2 u v hc) laid ps hv (fun _ h => h) (fun x hx => List.all_eq_true.1 hd x hx) hg'
  have hnE : (E.map fun e => MemPlace.cell e.2.block e.2.off).Nodup := hnd.sublist k1
  have hinj := nodup_map_inj hnE
  refine ⟨fun g => (E.find? fun e => e.1 == g).map fun e => .iface tp (.pointer (some e.2)), ⟨?_, ?_, ?_⟩, ?_⟩
  · intro g0 v0 _
    obtain ⟨i, i1, i2⟩ := hT.cmp
    obtain ⟨j, j1, j2⟩ := hT.one
    refine ⟨tp, te, i, j, hT.ptr, i1, i2, j1, j2, fun g v h => ?_⟩
    obtain ⟨e, _, rfl⟩ := Option.map_eq_some_iff.1 h
    exact ⟨e.2, rfl⟩
  · intro g g' v h h'
    obtain ⟨e, he, rfl⟩ := Option.map_eq_some_iff.1 h
    obtain ⟨e', he', hv'⟩ := Option.map_eq_some_iff.1 h'
    simp only [Value.iface.injEq, Value.pointer.injEq, Option.some.injEq, true_and] at hv'
    have m1 := List.mem_of_find?_eq_some he
    have m2 := List.mem_of_find?_eq_some he'
    have := hinj e' m2 e m1 (by rw [hv'])
    subst this
    have e1 := List.find?_some he
    have e2 := List.find?_some he'
    simp only [beq_iff_eq] at e1 e2
    rw [← e1, ← e2]
  · intro g hgE
    have hlt : g < P.globals.size := by
      unfold errG at hgE
      cases hx : P.globals[g]? with
      | none => rw [hx] at hgE; cases hgE
      | some x => exact (Array.getElem?_eq_some_iff.1 hx).1
    have := List.all_eq_true.1 hall g (List.mem_range.2 hlt)
    rw [hgE, Bool.not_true, Bool.false_or] at this
    obtain ⟨x, hx, hxg⟩ := List.any_eq_true.1 this
    simp only [beq_iff_eq] at hxg
    obtain ⟨e, he, hh⟩ := k4 x hx
    rw [hxg] at hh
    have hf : (E.find? fun e => e.1 == g).isSome = true := List.find?_isSome.2 ⟨e, he, by simpa using (Option.some.inj hh).symm⟩
    obtain ⟨e', he'⟩ := Option.isSome_iff_exists.1 hf
    exact ⟨.iface tp (.pointer (some e'.2)), by simp only [he', Option.map_some]⟩
  · intro g v h
    obtain ⟨e, he, rfl⟩ := Option.map_eq_some_iff.1 h
    have m1 := List.mem_of_find?_eq_some he
    have e1 := List.find?_some he
    simp only [beq_iff_eq] at e1
    refine ⟨⟨by rw [← e1]; exact k2 e m1, fun ho => ?_⟩, fun T a ha => ?_⟩
    · rcases ho with ⟨k, blk, hk, _⟩ | hb
      · cases hk
      · exact hb
    · simp only [Value.iface.injEq, Value.pointer.injEq, Option.some.injEq] at ha
      obtain ⟨_, rfl⟩ := ha
      exact (hrows _ _ (k1.subset (List.mem_map_of_mem (f := fun e : Nat × Addr => MemPlace.cell e.2.block e.2.off) m1))).1
end

end Go.Sim
