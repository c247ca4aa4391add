/- A function that has been handed memory keeps its contract. -/
import Derived.Test.YtmckiigefkfpaaaDoorSimFn
import Derived.Test.YtmckiigefkfpaaaDoorSimHCall
set_option linter.unusedVariables false
set_option linter.unusedSimpArgs false
namespace Go.Sim
open Go

variable {P : Program} {L : Nat → Option TI} {Γ : Oracle}

theorem VR.oneOrTup {s : S} {gs : List AV} {xs : List Value} (h : VRs s false gs xs) : VR s (Sim.oneOrTup gs) (resV xs) := by
  cases h with
  | nil _ => exact .tup (.nil _)
  | cons h1 hv hs =>
    cases hs with
    | nil _ => exact hv
    | cons h2 hv2 hs2 => exact .tup (.cons h1 hv (.cons h2 hv2 hs2))

theorem runFnH_ok (hm : P.follows .mixedOrders = true) (hL : LOK P L) (hΓ : OracleOK P Γ) {f : Nat} {fa : AFn} (hf : FnOK P L f fa) {tag : Nat} {args : List AV} {lent lent' : List (Option (List AV))} {r : AV}
    (hr : runFnH loopω L fa Γ tag args lent = some (r, lent')) : CallOKH P f tag args lent r lent' := by
  intro w vs m pre hgp
  obtain ⟨fn, hfn, hbody, hnt, hres⟩ := hf.fn
  refine .inl ⟨hf.enter _ _, ?_⟩
  unfold runFnH at hr
  split at hr
  · rename_i hla
    have hvl := pre.args.length
    cases hd : den loopω L fa.ann Γ fa.body { env := argEnv 0 args, heap := hHeap tag lent, next := 1, tag } with
    | none => rw [hd] at hr; cases hr
    | some p =>
      obtain ⟨e, st⟩ := p
      rw [hd] at hr
      have h0 : RelM (HCx w tag lent m) fa.ann.nt { env := argEnv 0 args, heap := hHeap tag lent, next := 1, tag }
          { tmps := vs.toArray ++ Array.replicate (fn.ntmps - vs.toArray.size) undef, defers := [] } w m := by
        refine ⟨rfl, ?_, Nat.le_refl _, ⟨pre.mB.1, pre.mB.2, rfl, rfl, fun g v hv => ⟨⟨(pre.glob g v hv).1.1, fun x => (pre.glob g v hv).1.2 (.inl x), fun x => (pre.glob g v hv).1.2 (.inr x)⟩, (pre.glob g v hv).2⟩⟩, fun k v hk => ?_, Pres.refl _ _, fun k b hb => ?_, pre.mem.apart⟩
        · have := hf.le; simp; omega
        · simp only [aget_argEnv, Nat.zero_le, if_true, Nat.sub_zero] at hk
          obtain ⟨x, g1, g2, _⟩ := pre.args.get hk
          have hlt : k < vs.length := (List.getElem?_eq_some_iff.1 g1).1
          rw [Array.getD_eq_getD_getElem?, Array.getElem?_append_left (by simpa using hlt)]
          simp only [List.getElem?_toArray, g1, Option.getD_some]
          exact g2
        · obtain ⟨g1, g2⟩ := pre.mem.blk k b hb
          exact ⟨by rw [g1]; exact okS_new tag 0, fun _ => ⟨rfl, rfl⟩, g2⟩
      have hwp := den_wp hf.few hm hL hΓ ⟨hgp, hf.rd⟩ fa.body hf.draws _ _ w m e st h0 hd
      refine calls_of_wp hfn hbody (wp_mono hwp ?_)
      rintro ex a' w' ⟨he, m', hR⟩
      have fin : ∀ (hr : (do
            let gs ← getAll L st fa.results
            let pk ← visit none st (tag, 0) 200 (rootsAt 0 args ++ rootsAt 400000 gs) []
            if pkOk pk && st.tag == tag && (rootKeys args).all (fun k => look k (tag, 0) pk == some (k, (tag, 0))) then
              let r ← packed st pk pk
              some (oneOrTup (gs.map (ren pk)), r)
            else none) = some (r, lent')),
          ∃ v, (results fn a'.tmps).run P w' = .ok v w' ∧ ∃ x, Ending.returned v = .returned x ∧ ∃ m', HPost w w' tag args lent lent' m m' r x := by
        intro hr
        cases hga : getAll L st fa.results with
        | none => simp [hga] at hr
        | some gs =>
        obtain ⟨xs, hxs, hrun⟩ := getAll_ok hL hR fa.results gs hga
        cases hvi : visit none st (tag, 0) 200 (rootsAt 0 args ++ rootsAt 400000 gs) [] with
        | none => simp [hga, hvi] at hr
        | some pk =>
        simp only [hga, hvi, Option.bind_eq_bind, Option.bind_some] at hr
        split at hr
        · rename_i hc
          simp only [Bool.and_eq_true, List.all_eq_true, beq_iff_eq] at hc
          obtain ⟨⟨hpk, htag⟩, hroots⟩ := hc
          cases hlo : packed st pk pk with
          | none => simp [hlo] at hr
          | some lo =>
            simp only [hlo, Option.bind_some, Option.some.injEq, Prod.mk.injEq] at hr
            obtain ⟨rfl, rfl⟩ := hr
            have hbn : m'.ban = m.ban := hR.mB.2.2.1
            have hgl : m'.gl = m.gl := hR.mB.2.2.2.1
            have hP : Packed st m' pk tag lo (HS w' tag lo (mpk m' pk m.B m.ban)) := packed_ok hpk (fun x hx => (visit_stamp hvi (by simp) x hx).1) hlo
            have hban : ∀ b o, (mpk m' pk m.B m.ban).ban b o → Held (At st w' m') b o := fun b o hb => .inr (by show m'.ban b o; rw [hbn]; exact hb)
            have hA := hP.anew (w := w') rfl rfl rfl hban rfl
            refine ⟨_, run_results hres hrun, _, rfl, mpk m' pk m.B m.ban, ⟨⟨rfl, rfl, hgl⟩, hR.pres, ?_, ?_, fun k hk b hb => ?_⟩⟩
            · rw [← renL_map]
              exact VR.oneOrTup (hxs.ren hA)
            · refine hP.mem hR hban rfl rfl fun k' b' hb o o1 o2 => ?_
              obtain ⟨k, g, b, q1, q2, q3, q4, q5, q6⟩ := hP.blk k' b' hb
              simp only at q5 q6
              rw [q5] at o1 o2 ⊢
              rw [q6] at o2
              exact (hR.blk k b q2).mine o1 o2
            · have hmem := look_mem (hroots k hk)
              obtain ⟨k0, g, b0, q1, q2, q3, q4, q5, q6⟩ := hP.blk k b hb
              have e1 := byNew_mem hP.news q1
              rw [byNew_mem hP.news hmem] at e1
              cases e1
              have e2 : g = (tag, 0) := by
                have key : ∀ {l : Pk} {x y : Nat × (Nat × Nat) × Nat × (Nat × Nat)}, (l.map (·.1)).Nodup → x ∈ l → y ∈ l → x.1 = y.1 → x = y := by
                  intro l
                  induction l with
                  | nil => intro x y _ hx; cases hx
                  | cons z l ih =>
                    intro x y hd hx hy e
                    simp only [List.map_cons, List.nodup_cons] at hd
                    rcases List.mem_cons.1 hx with rfl | hx' <;> rcases List.mem_cons.1 hy with rfl | hy'
                    · rfl
                    · exact (hd.1 (e ▸ List.mem_map_of_mem hy')).elim
                    · exact (hd.1 (e ▸ List.mem_map_of_mem hx')).elim
                    · exact ih hd.2 hx' hy' e
                have := key hP.olds q1 hmem rfl
                cases this; rfl
              have hb0 := (hR.blk k b0 q2).2.1 (by rw [q3, e2]; simp only [At, htag])
              simp only at q5 q6
              rw [q5, q6]
              exact hb0
        · cases hr
      cases e with
      | normal =>
        cases ex <;> simp only [Ex.is] at he
        exact ⟨hR.defers, fin hr⟩
      | ret =>
        cases ex <;> simp only [Ex.is] at he
        exact ⟨hR.defers, fin hr⟩
      | exit i => cases hr
  · cases hr

/-! ## a table of functions -/

def TableOK (P : Program) (L : Nat → Option TI) (T : Nat → Option Entry) : Prop := ∀ f e, T f = some e → match e with
  | .code a => f < 1000000000 ∧ FnOK P L f a
  | .hcode a => ∃ f', f = f' + 1000000000 ∧ FnOK P L f' a
  | .law o => f < 1000000000 ∧ ∀ tag args lent r lent', o tag args lent = some (r, lent') → CallOK P f tag args lent r lent'
  | .hlaw o => ∃ f', f = f' + 1000000000 ∧ ∀ tag args lent r lent', o tag args lent = some (r, lent') → CallOKH P f' tag args lent r lent'

theorem callN_ok (hm : P.follows .mixedOrders = true) (hL : LOK P L) {T : Nat → Option Entry} (hT : TableOK P L T) : ∀ n, OracleOK P (callN loopω L T n)
  | 0 => ⟨fun f tag args lent r lent' h => by simp [callN] at h, fun f tag args lent r lent' h => by simp [callN] at h⟩
  | n + 1 => by
    have void : ∀ {f tag : Nat} {as : List AV} {lent lent' : List (Option (List AV))} {r : AV}, CallOK P f tag (.mapd [] [] :: as) lent r lent' := fun w vs m pre => by
      have := pre.args
      cases this with
      | cons _ hv _ => cases hv
    refine ⟨fun f tag args lent r lent' h => ?_, fun f tag args lent r lent' h => ?_⟩
    · simp only [callN] at h
      cases he : T f with
      | none => rw [he] at h; cases h
      | some e =>
        have := hT f e he
        rw [he] at h
        cases e with
        | law o => exact this.2 tag args lent r lent' h
        | code a => exact runFn_ok hm hL (callN_ok hm hL hT n) this.2 h
        | hcode a =>
          simp only at h
          split at h
          · exact void
          · cases h
        | hlaw o =>
          simp only at h
          split at h
          · exact void
          · cases h
    · simp only [callN] at h
      cases he : T (f + 1000000000) with
      | none => rw [he] at h; cases h
      | some e =>
        have := hT _ e he
        rw [he] at h
        cases e with
        | law o => exact absurd this.1 (by omega)
        | code a => exact absurd this.1 (by omega)
        | hcode a =>
          obtain ⟨f', e1, e2⟩ := this
          have e3 : f' = f := by omega
          subst e3
          exact runFnH_ok hm hL (callN_ok hm hL hT n) e2 h
        | hlaw o =>
          obtain ⟨f', e1, e2⟩ := this
          have e3 : f' = f := by omega
          subst e3
          exact e2 tag args lent r lent' h

theorem callω_ok (hm : P.follows .mixedOrders = true) (hL : LOK P L) {T : Nat → Option Entry} (hT : TableOK P L T) : OracleOK P (callω L T) := by
  refine ⟨fun f tag args lent r lent' h => ?_, fun f tag args lent r lent' h => ?_⟩ <;> unfold callω at h <;> split at h
  · exact (callN_ok hm hL hT _).one f tag args lent r lent' h
  · cases h
  · exact (callN_ok hm hL hT _).all f tag args lent r lent' h
  · cases h

end Go.Sim
