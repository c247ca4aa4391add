/- From the interpreter's answer to a law's row that lists package variables. -/
import Derived.Test.YtmckiigefkfpaaaDoorSimLaw
import Derived.LaidMore
import Derived.LaidLaws
import Derived.LaidHandle
import Derived.Stop.Joined
set_option linter.unusedVariables false
set_option linter.unusedSimpArgs false
namespace Go.Sim
open Go Go.RowKit Go.ChangeShapes Go.WideShapes

theorem law_lift_laid {C : Checked} {os : Os} {f : FuncId} {F : Func} {L : Nat → Option TI} {T : Nat → Option Entry} {fa : AFn} {s : ChangeSpec} {H : Type} {enc : TypeId × Value → H} {n : Nat} {tb : TypeId}
    {conds : List PathCond} {apart fresh handsOn again : Bool} {laid : List (String × DataW Unit)}
    (own : ownKnob C.prog.godebug = none) (started : os.Started) (noInit : C.prog.inits.idxOf? f = none) (hfn : C.prog.funcs[f]? = some F)
    (hL : LOK C.prog L) (hT : TableOK C.prog L T) (hf : T f = some (.code fa)) (hlaid : laidOutB C.prog = true)
    (hps : F.params.toList.all (fun t => okShape L n t && C.prog.readableRec t && decide (t < C.prog.types.size)) = true)
    (hres : F.resultTypes = #[tb]) (hb : C.prog.underlying tb = some .bool)
    (hvars : s.vars = []) (hs : ∀ (H : Type) (ds : List (DataW H)), ds.length = F.params.toList.length → s.fn H ds = { results := [.lit (.bool true)], args := ds })
    (hgl : ∀ (W : World), laidMetH C.prog laid W → ∃ gl, GlobP C.prog gl ∧ GlobS ⟨W, [], ⟨fun _ => (0, 0), fun _ => 0, W.heap.size, fun _ _ => False, gl⟩, 0, 1⟩)
    (hlaw : ∀ (W : World), laidMetH C.prog laid W → ∀ cs, ShpAll L n F.params.toList cs → ∃ lent, callω L T f 0 cs (List.replicate F.params.toList.length none) = some (.bool true, lent))
    (witness : ∃ (w : World) (tape : Tape) (i : Input), w.os = os ∧ (w.forCall tape i).Shaped C.prog ∧ i.vars = [] ∧ Input.okWide C.prog (w.forCall tape i) .any w.heap.size f i ∧
      ((s.pre enc C.prog F conds apart (w.forCall tape i).memory i.args ∧ laidMetH C.prog laid (w.forCall tape i).memory) ∧ sizedMet enc C.prog F (OpenSpec.ofChange s) apart (w.forCall tape i).memory i.args) ∧ ({} : Assume).holds C.prog (lone (Frame.enter C.prog f i.args .normal) [] (w.forCall tape i))) :
    ReturnsInHanded {} C os f .any (fun w args => (s.pre enc C.prog F conds apart w args ∧ laidMetH C.prog laid w) ∧ sizedMet enc C.prog F (OpenSpec.ofChange s) apart w args) (s.post enc C.prog F apart fresh handsOn again) := by
  refine returnsInHanded_of_change_and (C := C) (X := fun w _ => laidMetH C.prog laid w) (fun _ _ _ hh h => h.of_heap hh) own started noInit hfn witness ?_
  intro W base args ds gs before hval hW hcnd _ hLd _
  have hW' := hW
  obtain ⟨p, q, hA, hV, rfl, hfz, hnd⟩ := hW
  rw [hvars] at hV
  obtain ⟨rfl, rfl⟩ := trodVars_none hV
  rw [List.append_nil] at hW'
  have hps' : ∀ t ∈ F.params.toList, okShape L n t = true ∧ C.prog.readableRec t = true ∧ t < C.prog.types.size := fun t ht => by
    have := List.all_eq_true.1 hps t ht
    simp only [Bool.and_eq_true, decide_eq_true_eq] at this
    exact ⟨this.1.1, this.1.2, this.2⟩
  obtain ⟨gl, hG, hS⟩ := hgl W hLd
  obtain ⟨cs, hcs, hshp⟩ := shp_all (s := ⟨W, [], ⟨fun _ => (0, 0), fun _ => 0, W.heap.size, fun _ _ => False, gl⟩, 0, 1⟩) hL (fun b o hx => hx.elim (fun ⟨k, blk, hk, _⟩ => by cases hk) id) F.params.toList args.toList ds p
    (List.all_eq_true.2 fun t ht => (hps' t ht).1) (fun j t v h1 h2 => hval j t v (by simpa using h1) (by simpa using h2)) hA
  obtain ⟨lent, hlaw⟩ := hlaw W hLd cs hshp
  have hlen := trodAll_len _ _ _ _ hA
  refine (law_calls C.mixed hL hT hf (shpAll_length _ _ hshp) hG hS hcs hlaw).mono fun e W' ⟨he, hbl⟩ => ?_
  subst he
  have hspec := hs H (ds ++ []) (by simpa using hlen)
  refine ⟨_, rfl, post_of_below' (pa := p) (pv := []) hW' (fun b sp hd => ?_) (fun sp hsp => ?_) (fun sp _ => ?_) (by simp) hbl (ok_one hres rfl (okWide_bool_mk hb _))⟩
  · rw [hspec, hres]
    exact trodAll_cons_mk (shut_bool hb _) trodAll_mk0
  · rw [hspec]
    simp only [List.append_nil]
    exact trodAll_below hlaid hbl _ _ _ _ (fun t ht => (hps' t ht).2) hA (fun x hx => hW'.lt x hx) hsp
  · rw [hspec, hvars]
    rfl

end Go.Sim
