/- The interpreter is the model's: functions, tables of functions. -/
import Derived.Test.YtmckiigefkfpaaaDoorSimCode
set_option linter.unusedVariables false
set_option linter.unusedSimpArgs false
namespace Go.Sim
open Go

/-! ## results go out -/

section
variable {P : Program} {c : Cx} {nt : Nat} {st : St} {a : Act} {w : World} {m : Mp} {L : Nat → Option TI} {K : Ann} {Γ : Oracle}

/-- Whose a row is that goes out. -/
def For (st : St) (w : World) (m : Mp) (s : Nat) (r : Reg) : Prop :=
  (∃ blk, aget s st.heap = some blk ∧ r.1 = (m.base s).1 ∧ (m.base s).2 ≤ r.2.1 ∧ r.2.1 + r.2.2 ≤ (m.base s).2 + m.ext s) ∨ (s = passed ∧ ∀ b o, InR r b o → ¬ Own (At st w m) b o)

theorem For.own {s : Nat} {r : Reg} {blk : Blk} (hb : aget s st.heap = some blk) (h1 : r.1 = (m.base s).1) (h2 : (m.base s).2 ≤ r.2.1) (h3 : r.2.1 + r.2.2 ≤ (m.base s).2 + m.ext s) {b o : Nat} (h : InR r b o) : Own (At st w m) b o :=
  ⟨s, blk, hb, by rw [← h.1]; exact h1.symm, by have := h.2.1; simp only []; omega, by have := h.2.2; simp only []; omega⟩

theorem For.apart (h : RelM c nt st a w m) {s s' : Nat} {r r' : Reg} (h1 : For st w m s r) (h2 : For st w m s' r') (hne : s ≠ s') : ∀ b o, ¬ (InR r b o ∧ InR r' b o) := by
  rintro b o ⟨i1, i2⟩
  rcases h1 with ⟨blk, a1, a2, a3, a4⟩ | ⟨rfl, a1⟩
  · rcases h2 with ⟨blk', b1, b2, b3, b4⟩ | ⟨rfl, b1⟩
    · have := i1.1; have := i2.1; have := i1.2; have := i2.2
      exact h.apart s s' blk blk' hne a1 b1 (by omega) o ⟨by omega, by omega, by omega, by omega⟩
    · exact b1 b o i2 (For.own a1 a2 a3 a4 i1)
  · rcases h2 with ⟨blk', b1, b2, b3, b4⟩ | ⟨rfl, b1⟩
    · exact a1 b o i1 (For.own b1 b2 b3 b4 i2)
    · exact hne rfl

theorem Apart.append {rs rs' : List Reg} (h1 : Apart rs) (h2 : Apart rs') (h : ∀ r ∈ rs, ∀ r' ∈ rs', ∀ b o, ¬ (InR r b o ∧ InR r' b o)) : Apart (rs ++ rs') :=
  List.pairwise_append.2 ⟨h1, h2, h⟩

theorem freezeSl_ok (h : RelM c nt st a w m) {v : AV} {x : Value} (hv : VR (At st w m) v x) {z n : Nat} {cells : List AV} {s : Nat} (hf : freezeSl c.np st v = some (z, n, cells, s)) :
    (∃ cap b o vs cs e fr, x = .slice (some ⟨b, o, none⟩) n cap ∧ RowAt w c.w0.heap.size z n cap b o cells vs cs e fr ∧ For st w m s (b, o, cap * z)) ∨ (∃ ad, x = .slice ad 0 0 ∧ n = 0 ∧ cells = []) := by
  unfold freezeSl at hf
  split at hf
  · rename_i s' g z' o n'
    cases hb : blkOf st s' g with
    | none => simp [hb] at hf
    | some cs =>
      simp only [hb, Option.bind_eq_bind, Option.bind_some] at hf
      split at hf
      · rename_i hcnd
        obtain ⟨c1, c0, c2, c3, c4, c5⟩ := hcnd
        simp only [Option.some.injEq, Prod.mk.injEq] at hf
        obtain ⟨rfl, rfl, rfl, rfl⟩ := hf
        subst c2
        obtain ⟨blk, b1, b2, rfl⟩ := blkOf_some hb
        rcases (hv.msl_inv b1 b2).2 with ⟨cap, e1, hc, hx⟩ | ⟨e0, ad, e1⟩
        · replace hx : 0 + cap * z' ≤ m.ext s' := hx
          rcases h.blkAt b1 with ⟨q1, q2⟩ | ⟨cs, e, fr, r1, r2, r3, r4, r5, vs, r6, r7⟩
          · have hz : cap = 0 := by
              rcases Nat.mul_eq_zero.1 (show cap * z' = 0 by omega) with y | y
              · exact y
              · omega
            subst hz
            have : n' = 0 := by omega
            subst this
            exact .inr ⟨_, e1, rfl, q1⟩
          · refine .inl ⟨cap, _, _, vs, cs, e, fr, e1, ⟨r4 c1 c0, r1, by show (m.base s').2 + 0 + cap * z' ≤ _; omega, hc, c4, r6.pvs c5, fun j v hj => by simpa using r7 j v hj, fun k k1 k2 => (r5 k (by simpa using k1) (by
              have : k < (m.base s').2 + 0 + cap * z' := k2
              omega)).1⟩, .inl ⟨blk, b1, rfl, by simp, by show (m.base s').2 + 0 + cap * z' ≤ _; omega⟩⟩
        · refine .inr ⟨ad, by rw [e1], e0, List.eq_nil_of_length_eq_zero (by rw [c4, e0]; simp)⟩
      · cases hf
  · cases hf

theorem RCs.plain {w : World} {B : Nat} {cs : List AV} {vs : List Value} (h : PVs cs vs) : RCs w B cs vs [] := by
  induction cs generalizing vs with
  | nil => cases h; exact .nil
  | cons c cs ih => cases h with | cons hv hs => exact .cons (r := []) (rs := []) (.plain hv) (ih hs)

theorem RCs.append {w : World} {B : Nat} {cs ds : List AV} {vs us : List Value} {rs ss : List Reg} (h : RCs w B cs vs rs) (k : RCs w B ds us ss) : RCs w B (cs ++ ds) (vs ++ us) (rs ++ ss) := by
  induction h with
  | nil => simpa using k
  | cons h hs ih => rw [List.append_assoc]; exact .cons h ih

theorem freezeAgg_ne {np : Nat} {st : St} {p k : Nat} {ps : List Nat} {cs : List AV} {v : AV} (hc : cs[p - k]? = some v) (hn : v ≠ .nsl) : freezeAgg np st (p :: ps) k cs = (do
      let (z, n, cells, s) ← freezeSl np st v
      let (r, ss) ← freezeAgg np st ps (p + 1) (cs.drop (p - k + 1))
      if (cs.take (p - k)).all AV.plain ∧ !ss.contains s then some (cs.take (p - k) ++ .isl z n cells :: r, s :: ss) else none) := by
  simp only [freezeAgg, hc, Option.bind_eq_bind, Option.bind_some]

theorem freezeAgg_nsl {np : Nat} {st : St} {p k : Nat} {ps : List Nat} {cs : List AV} (hc : cs[p - k]? = some .nsl) : freezeAgg np st (p :: ps) k cs = (do
      let (r, ss) ← freezeAgg np st ps (p + 1) (cs.drop (p - k + 1))
      if (cs.take (p - k)).all AV.plain then some (cs.take (p - k) ++ .nsl :: r, ss) else none) := by
  simp only [freezeAgg, hc, Option.bind_eq_bind, Option.bind_some]

theorem freezeAgg_ok (h : RelM c nt st a w m) : ∀ (ps : List Nat) (k : Nat) (cs : List AV) (vs : List Value) (out : List AV) (ss : List Nat), VRs (At st w m) true cs vs → freezeAgg c.np st ps k cs = some (out, ss) →
    ∃ rs, RCs w c.w0.heap.size out vs rs ∧ Apart rs ∧ ∀ r ∈ rs, ∃ s ∈ ss, For st w m s r
  | [], k, cs, vs, out, ss, hv, hf => by
    simp only [freezeAgg] at hf
    split at hf
    · rename_i hp
      simp only [Option.some.injEq, Prod.mk.injEq] at hf
      obtain ⟨rfl, rfl⟩ := hf
      exact ⟨[], RCs.plain (hv.pvs hp), .nil, by simp⟩
    · cases hf
  | p :: ps, k, cs, vs, out, ss, hv, hf => by
    cases hc : cs[p - k]? with
    | none => simp [freezeAgg, hc] at hf
    | some v =>
      by_cases hnsl : v = .nsl
      · subst hnsl
        rw [freezeAgg_nsl hc] at hf
        cases hr : freezeAgg c.np st ps (p + 1) (cs.drop (p - k + 1)) with
        | none => simp [hr] at hf
        | some q2 =>
          obtain ⟨r, ss'⟩ := q2
          simp only [hr, Option.bind_eq_bind, Option.bind_some] at hf
          split at hf
          · rename_i hcnd
            simp only [Option.some.injEq, Prod.mk.injEq] at hf
            obtain ⟨rfl, rfl⟩ := hf
            obtain ⟨x, hx1, hx2, _⟩ := hv.get hc
            obtain ⟨rs, g1, g2, g3⟩ := freezeAgg_ok h ps (p + 1) _ (vs.drop (p - k + 1)) r ss' (hv.drop _) hr
            have hsplit : vs = vs.take (p - k) ++ x :: vs.drop (p - k + 1) := by
              have hlt : p - k < vs.length := (List.getElem?_eq_some_iff.1 hx1).1
              have hx : vs[p - k] = x := (List.getElem?_eq_some_iff.1 hx1).2
              rw [← hx, ← List.drop_eq_getElem_cons hlt, List.take_append_drop]
            have hpre : RCs w c.w0.heap.size (cs.take (p - k)) (vs.take (p - k)) [] := RCs.plain ((hv.take _).pvs hcnd)
            rw [hsplit]
            exact ⟨[] ++ ([] ++ rs), hpre.append (.cons (.plain (hx2.pv rfl)) g1), by simpa using g2, fun r' hr' => g3 r' (by simpa using hr')⟩
          · cases hf
      rw [freezeAgg_ne hc hnsl] at hf
      cases hs : freezeSl c.np st v with
      | none => simp [hs] at hf
      | some q =>
        obtain ⟨z, n, cells, s⟩ := q
        cases hr : freezeAgg c.np st ps (p + 1) (cs.drop (p - k + 1)) with
        | none => simp [hs, hr] at hf
        | some q2 =>
          obtain ⟨r, ss'⟩ := q2
          simp only [hs, hr, Option.bind_eq_bind, Option.bind_some] at hf
          split at hf
          · rename_i hcnd
            simp only [Option.some.injEq, Prod.mk.injEq] at hf
            obtain ⟨rfl, rfl⟩ := hf
            obtain ⟨x, hx1, hx2, _⟩ := hv.get hc
            obtain ⟨rs, g1, g2, g3⟩ := freezeAgg_ok h ps (p + 1) _ (vs.drop (p - k + 1)) r ss' (hv.drop _) hr
            have hsplit : vs = vs.take (p - k) ++ x :: vs.drop (p - k + 1) := by
              have hlt : p - k < vs.length := (List.getElem?_eq_some_iff.1 hx1).1
              have hx : vs[p - k] = x := (List.getElem?_eq_some_iff.1 hx1).2
              rw [← hx, ← List.drop_eq_getElem_cons hlt, List.take_append_drop]
            have hpre : RCs w c.w0.heap.size (cs.take (p - k)) (vs.take (p - k)) [] := RCs.plain ((hv.take _).pvs hcnd.1)
            rw [hsplit]
            rcases freezeSl_ok h hx2 hs with ⟨cap, b, o, vs', cs', e, fr, rfl, hrow, hfor⟩ | ⟨ad, rfl, rfl, rfl⟩
            · refine ⟨[] ++ ([(b, o, cap * z)] ++ rs), hpre.append (.cons (.isl hrow) g1), ?_, ?_⟩
              · simp only [List.nil_append, List.singleton_append]
                refine List.pairwise_cons.2 ⟨fun r' hr' => ?_, g2⟩
                obtain ⟨s', hs', hfor'⟩ := g3 r' hr'
                refine hfor.apart h hfor' fun e => ?_
                subst e
                have := hcnd.2
                simp [hs'] at this
              · intro r' hr'
                simp only [List.nil_append, List.singleton_append, List.mem_cons] at hr'
                rcases hr' with rfl | hr'
                · exact ⟨s, by simp, hfor⟩
                · obtain ⟨s', hs', hfor'⟩ := g3 r' hr'
                  exact ⟨s', by simp [hs'], hfor'⟩
            · refine ⟨[] ++ ([] ++ rs), hpre.append (.cons .islnil g1), by simpa using g2, fun r' hr' => ?_⟩
              obtain ⟨s', hs', hfor'⟩ := g3 r' (by simpa using hr')
              exact ⟨s', by simp [hs'], hfor'⟩
          · cases hf

theorem freezeOne_ok (h : RelM c nt st a w m) (ps : List Nat) {v out : AV} {x : Value} {ss : List Nat} (hv : VR (At st w m) v x) (hf : freezeOne c.np ps st v = some (out, ss)) :
    ∃ rs, Res1 w c.w0.heap.size out x rs ∧ Apart rs ∧ ∀ r ∈ rs, ∃ s ∈ ss, For st w m s r := by
  unfold freezeOne at hf
  split at hf
  · rename_i cs
    obtain ⟨vs, rfl, hvs⟩ := hv.agg_inv
    cases hr : freezeAgg c.np st ps 0 cs with
    | none => simp [hr] at hf
    | some q =>
      obtain ⟨r, ss'⟩ := q
      simp only [hr, Option.map_some, Option.some.injEq, Prod.mk.injEq] at hf
      obtain ⟨rfl, rfl⟩ := hf
      obtain ⟨rs, g1, g2, g3⟩ := freezeAgg_ok h ps 0 cs vs r ss' hvs hr
      exact ⟨rs, .agg g1, g2, g3⟩
  · rename_i s g z o n
    cases hr : freezeSl c.np st (.msl s g z o n) with
    | none => simp [hr] at hf
    | some q =>
      obtain ⟨z', n', cells, s'⟩ := q
      simp only [hr, Option.map_some, Option.some.injEq, Prod.mk.injEq] at hf
      obtain ⟨rfl, rfl⟩ := hf
      rcases freezeSl_ok h hv hr with ⟨cap, b, o, vs', cs', e, fr, rfl, hrow, hfor⟩ | ⟨ad, rfl, rfl, rfl⟩
      · exact ⟨_, .fsl hrow, List.pairwise_singleton _ _, fun r hr' => ⟨s', by simp, by simp at hr'; rw [hr']; exact hfor⟩⟩
      · exact ⟨[], .fslnil, .nil, by simp⟩
  · rename_i z n cells
    simp only [Option.some.injEq, Prod.mk.injEq] at hf
    obtain ⟨rfl, rfl⟩ := hf
    cases hv with
    | fslnil => exact ⟨[], .fslnil, .nil, by simp⟩
    | fsl hB hb hsz hcap hlen hpv hc hfz =>
      rename_i cap b o vs cs e fr
      have hB' : c.w0.heap.size ≤ b := by have := h.mB.1; simp only at hB; omega
      exact ⟨_, .fsl ⟨hB', hb, hsz, hcap, hlen, hpv, hc, fun k k1 k2 => (hfz k k1 k2).1⟩, List.pairwise_singleton _ _, fun r hr' => ⟨passed, by simp, by
        simp at hr'; rw [hr']
        exact .inr ⟨rfl, fun b' o' hin => by
          obtain ⟨i1, i2, i3⟩ := hin
          simp only at i1 i2 i3
          rw [← i1]; exact fun ho => (hfz o' i2 i3).2 (.inl ho)⟩⟩⟩
  · split at hf
    · rename_i hp
      simp only [Option.some.injEq, Prod.mk.injEq] at hf
      obtain ⟨rfl, rfl⟩ := hf
      exact ⟨[], .plain (hv.pv hp), .nil, by simp⟩
    · cases hf

theorem freezeAll_ok (h : RelM c nt st a w m) (ps : List Nat) : ∀ (vs : List AV) (xs : List Value) (out : List AV) (ss : List Nat), VRs (At st w m) false vs xs → freezeAll c.np ps st vs = some (out, ss) →
    ∃ rs, Res1s w c.w0.heap.size out xs rs ∧ Apart rs ∧ ∀ r ∈ rs, ∃ s ∈ ss, For st w m s r
  | [], xs, out, ss, hv, hf => by
    cases hv
    simp only [freezeAll, Option.some.injEq, Prod.mk.injEq] at hf
    obtain ⟨rfl, rfl⟩ := hf
    exact ⟨[], .nil, .nil, by simp⟩
  | v :: vs, _, out, ss, .cons h1 hv hs, hf => by
    simp only [freezeAll] at hf
    cases h1 : freezeOne c.np ps st v with
    | none => simp [h1] at hf
    | some p =>
      obtain ⟨x, s1⟩ := p
      cases h2 : freezeAll c.np ps st vs with
      | none => simp [h1, h2] at hf
      | some q =>
        obtain ⟨xs', s2⟩ := q
        simp only [h1, h2, Option.bind_eq_bind, Option.bind_some] at hf
        split at hf
        · rename_i hd
          simp only [Option.some.injEq, Prod.mk.injEq] at hf
          obtain ⟨rfl, rfl⟩ := hf
          obtain ⟨r1, g1, g2, g3⟩ := freezeOne_ok h ps hv h1
          obtain ⟨r2, k1, k2, k3⟩ := freezeAll_ok h ps vs _ xs' s2 hs h2
          refine ⟨r1 ++ r2, .cons g1 k1, g2.append k2 fun r hr r' hr' => ?_, fun r hr => ?_⟩
          · obtain ⟨s, hs, hfor⟩ := g3 r hr
            obtain ⟨s', hs', hfor'⟩ := k3 r' hr'
            refine hfor.apart h hfor' fun e => ?_
            subst e
            have := List.all_eq_true.1 hd s hs
            simp [hs'] at this
          · rcases List.mem_append.1 hr with y | y
            · obtain ⟨s, hs, hfor⟩ := g3 r y; exact ⟨s, by simp [hs], hfor⟩
            · obtain ⟨s, hs, hfor⟩ := k3 r y; exact ⟨s, by simp [hs], hfor⟩
        · cases hf


/-! ## a function -/

theorem aget_argEnv (k : Nat) : ∀ (j : Nat) (args : List AV), aget k (argEnv j args) = if j ≤ k then args[k - j]? else none
  | j, [] => by simp [argEnv, aget]
  | j, v :: l => by
    simp only [argEnv, aget, aget_argEnv k (j + 1) l]
    by_cases e : j = k
    · subst e; simp
    · rw [if_neg e]
      by_cases h : j + 1 ≤ k
      · rw [if_pos h, if_pos (by omega), show k - j = (k - (j + 1)) + 1 from by omega]; simp
      · rw [if_neg h, if_neg (by omega)]

theorem lentOut_ok : ∀ (j : Nat) (lent out : List (Option (List AV))), lentOut st j lent = some out →
    out.length = lent.length ∧ (∀ k : Nat, lent[k]? = some none → out[k]? = some none) ∧
    ∀ (k : Nat) (old : List AV), lent[k]? = some (some old) → ∃ new, out[k]? = some (some new) ∧ blkOf st (j + k) (st.tag, 0) = some new ∧ new.length = old.length ∧ new.all AV.plain = true
  | j, [], out, h => by
    simp only [lentOut, Option.some.injEq] at h
    subst h
    exact ⟨rfl, by simp, by simp⟩
  | j, none :: l, out, h => by
    simp only [lentOut] at h
    cases hr : lentOut st (j + 1) l with
    | none => simp [hr] at h
    | some r =>
      simp only [hr, Option.map_some, Option.some.injEq] at h
      subst h
      obtain ⟨h1, h2, h3⟩ := lentOut_ok (j + 1) l r hr
      refine ⟨by simp [h1], fun k hk => ?_, fun k old hk => ?_⟩
      · cases k with
        | zero => rfl
        | succ k => simpa using h2 k (by simpa using hk)
      · cases k with
        | zero => simp at hk
        | succ k =>
          obtain ⟨new, g1, g2, g3⟩ := h3 k old (by simpa using hk)
          exact ⟨new, by simpa using g1, by rw [← g2]; congr 1; omega, g3⟩
  | j, some old :: l, out, h => by
    simp only [lentOut] at h
    cases hb : blkOf st j (st.tag, 0) with
    | none => simp [hb] at h
    | some cells =>
      cases hr : lentOut st (j + 1) l with
      | none => simp [hb, hr] at h
      | some r =>
        simp only [hb, hr, Option.bind_eq_bind, Option.bind_some] at h
        split at h
        · rename_i hcnd
          simp only [Option.some.injEq] at h
          subst h
          obtain ⟨h1, h2, h3⟩ := lentOut_ok (j + 1) l r hr
          refine ⟨by simp [h1], fun k hk => ?_, fun k old' hk => ?_⟩
          · cases k with
            | zero => simp at hk
            | succ k => simpa using h2 k (by simpa using hk)
          · cases k with
            | zero => simp at hk; subst hk; exact ⟨cells, rfl, by simpa using hb, hcnd.1, hcnd.2⟩
            | succ k =>
              obtain ⟨new, g1, g2, g3⟩ := h3 k old' (by simpa using hk)
              exact ⟨new, by simpa using g1, by rw [← g2]; congr 1; omega, g3⟩
        · cases h

theorem ok_loadVar (h : RelM c nt st a w m) {t : Nat} {i : TI} (hi : TIOK P t i) {av v : AV} {x : Value} (hx : VR (At st w m) av x) (hl : aLoad i st av = some v) :
    ∃ y, ((do loadVar t (← asAddr x)) : Sem Value).run P w = .ok y w ∧ VR (At st w m) v y := by
  unfold aLoad at hl
  split at hl
  · rename_i k σ o
    cases hb : blkOf st k σ with
    | none => simp [hb] at hl
    | some cells =>
      simp only [hb, Option.bind_some] at hl
      obtain ⟨blk, h1, h2, rfl⟩ := blkOf_some hb
      obtain ⟨vs, g1, g2⟩ := h.reads h1
      have hx' := hx.ref_inv h1 h2
      subst hx'
      obtain ⟨y, k1, k2⟩ := run_rd hi g1 hl (m.base k).1 (m.base k).2 w g2
      exact ⟨y, by simpa [asAddr] using k1, k2⟩
  · rename_i cells
    obtain ⟨b, vs, rfl, hr, hv⟩ := hx.ipt_inv
    obtain ⟨y, k1, k2⟩ := run_rd hi hv hl b.block b.off w (fun j u hj => (hr j u hj).1)
    exact ⟨y, by simpa [asAddr] using k1, k2⟩
  · cases hl

theorem getAll_ok (hL : LOK P L) (h : RelM c nt st a w m) : ∀ (ks : List ResultVar) (gs : List AV), getAll L st ks = some gs → ∃ xs, VRs (At st w m) false gs xs ∧
    ∀ (g : ResultVar → Sem Value), (∀ t, (g (.tmp t)).run P w = .ok (a.tmps.getD t undef) w) → (∀ k t, (g (.cell k t)).run P w = ((do loadVar t (← asAddr (a.tmps.getD k undef))) : Sem Value).run P w) → (ks.mapM g).run P w = .ok xs w
  | [], gs, hg => by
    simp only [getAll, Option.some.injEq] at hg
    subst hg
    exact ⟨[], .nil _, fun g _ _ => by simp⟩
  | k :: ks, gs, hg => by
    simp only [getAll] at hg
    cases hr : getRes L st k with
    | none => simp [hr] at hg
    | some v =>
      cases hs : getAll L st ks with
      | none => simp [hr, hs] at hg
      | some vs =>
        simp only [hr, hs, Option.bind_some, Option.map_some, Option.some.injEq] at hg
        subst hg
        obtain ⟨xs, i1, i2⟩ := getAll_ok hL h ks vs hs
        have hget : ∀ t, VR (At st w m) ((aget t st.env).getD .junk) (a.tmps.getD t undef) := fun t => by
          cases hk : aget t st.env with
          | none => exact .junk _
          | some v => exact h.env t v hk
        have : ∃ x, VR (At st w m) v x ∧ ∀ (g : ResultVar → Sem Value), (∀ t, (g (.tmp t)).run P w = .ok (a.tmps.getD t undef) w) → (∀ k t, (g (.cell k t)).run P w = ((do loadVar t (← asAddr (a.tmps.getD k undef))) : Sem Value).run P w) → (g k).run P w = .ok x w := by
          cases k with
          | tmp t =>
            simp only [getRes, Option.some.injEq] at hr
            subst hr
            exact ⟨_, hget t, fun g h1 _ => h1 t⟩
          | cell t ty =>
            simp only [getRes] at hr
            cases hl : L ty with
            | none => simp [hl] at hr
            | some i =>
              simp only [hl, Option.bind_some] at hr
              obtain ⟨y, k1, k2⟩ := ok_loadVar h (hL ty i hl) (hget t) hr
              exact ⟨y, k2, fun g _ h2 => by rw [h2]; exact k1⟩
        obtain ⟨x, j1, j2⟩ := this
        refine ⟨x :: xs, .cons (fun e => by cases e) j1 i1, fun g h1 h2 => ?_⟩
        simp only [List.mapM_cons, Sem.run_bind, Sem.run_pure, Result.andThen_ok, j2 g h1 h2, i2 g h1 h2]

/-- A function of the table is the program's. -/
structure FnOK (P : Program) (L : Nat → Option TI) (f : Nat) (a : AFn) : Prop where
  draws : drawsOk L a.ann a.body = true
  fn : ∃ fn : Func, P.funcs[f]? = some fn ∧ fn.body = some a.body ∧ fn.ntmps = a.ann.nt ∧ fn.results = a.results.toArray
  enter : ∀ args w, (callFunc f args).run P w = .ok (.enter f args) w
  le : a.np ≤ a.ann.nt
  few : a.ann.nt ≤ 500000
  rd : ∀ g, (aget (1000000000 + g) a.ann.reads).isSome = true → errG P g = true

def resV : List Value → Value
  | [x] => x
  | xs => .tuple xs.toArray

theorem run_results {fn : Func} {ks : List ResultVar} (h : fn.results = ks.toArray) {tmps : Array Value} {w : World} {xs : List Value}
    (hx : ∀ (g : ResultVar → Sem Value), (∀ t, (g (.tmp t)).run P w = .ok (tmps.getD t undef) w) → (∀ k t, (g (.cell k t)).run P w = ((do loadVar t (← asAddr (tmps.getD k undef))) : Sem Value).run P w) → (ks.mapM g).run P w = .ok xs w) :
    (results fn tmps).run P w = .ok (resV xs) w := by
  unfold results
  rw [Sem.run_bind, h, Array.mapM_eq_mapM_toList]
  simp only [Sem.run_map]
  rw [hx _ (fun t => rfl) (fun k t => rfl)]
  simp only [Sem.run_pure]
  match xs with
  | [] => rfl
  | [k] => rfl
  | _ :: _ :: _ => rfl

theorem runFn_ok (hm : P.follows .mixedOrders = true) (hL : LOK P L) (hΓ : OracleOK P Γ) {f : Nat} {fa : AFn} (hf : FnOK P L f fa) {tag : Nat} {args : List AV} {lent lent' : List (Option (List AV))} {r : AV}
    (hr : runFn loopω L fa Γ tag args lent = some (r, lent')) : CallOK P f tag args lent r lent' := by
  intro w vs m pre hgp
  obtain ⟨fn, hfn, hbody, hnt, hres⟩ := hf.fn
  refine .inl ⟨hf.enter _ _, ?_⟩
  unfold runFn at hr
  split at hr
  · rename_i hlen
    obtain ⟨hla, hll⟩ := hlen
    have hvl := pre.args.length
    cases hd : den loopω L fa.ann Γ fa.body { env := argEnv 0 args, heap := lentHeap tag 0 lent, next := 1, tag } with
    | none => rw [hd] at hr; cases hr
    | some p =>
      obtain ⟨e, st⟩ := p
      rw [hd] at hr
      -- the beginning
      have h0 : RelM ⟨w, Own ⟨w, lentHeap tag 0 lent, m, tag, 1⟩, fa.np, m.base, m.ext, m.ban, m.gl⟩ fa.ann.nt { env := argEnv 0 args, heap := lentHeap tag 0 lent, next := 1, tag }
          { tmps := vs.toArray ++ Array.replicate (fn.ntmps - vs.toArray.size) undef, defers := [] } w m := by
        refine ⟨rfl, ?_, Nat.le_refl _, ⟨pre.mB.1, pre.mB.2, rfl, rfl, fun g v hv => ⟨⟨(pre.glob g v hv).1.1, fun x => (pre.glob g v hv).1.2 (.inl x), fun x => (pre.glob g v hv).1.2 (.inr x)⟩, (pre.glob g v hv).2⟩⟩, fun k v hk => ?_, Pres.refl _ _, fun k b hb => ?_, pre.apart⟩
        · have := hf.le; simp; omega
        · simp only [aget_argEnv, Nat.zero_le, if_true, Nat.sub_zero] at hk
          obtain ⟨x, g1, g2, _⟩ := pre.args.get hk
          have hlt : k < vs.length := (List.getElem?_eq_some_iff.1 g1).1
          rw [Array.getD_eq_getD_getElem?, Array.getElem?_append_left (by simpa using hlt)]
          simp only [List.getElem?_toArray, g1, Option.getD_some]
          exact g2
        · obtain ⟨g1, g2⟩ := pre.blk k b hb
          have hb' := hb
          have hkl : k < lent.length := by
            simp only [aget_lentHeap, Nat.zero_le, if_true, Nat.sub_zero] at hb'
            by_cases hk : k < lent.length
            · exact hk
            · rw [List.getElem?_eq_none (by omega)] at hb'; cases hb'
          have hst : b.stamp = (tag, 0) := by
            simp only [aget_lentHeap, Nat.zero_le, if_true, Nat.sub_zero] at hb'
            split at hb'
            · simp only [Option.some.injEq] at hb'; rw [← hb']
            · cases hb'
          refine ⟨by rw [hst]; exact okS_new tag 0, fun _ => ⟨rfl, rfl⟩, ?_⟩
          refine cellsI (key_slot (by have := hf.le; have := hf.few; omega)) ?_
          rcases g2 with g2 | ⟨cs, e, fr, q1, q2, q3, us, q4, q5⟩
          · exact .inl ⟨g2, by show m.ext k = 0; rw [g1, g2]; rfl⟩
          · refine .inr ⟨cs, e, fr, q1, q2, by show _ ≤ m.ext k; omega, fun hnp => by simp only at hnp; omega, fun o o1 o2 => ⟨q3 o o1 o2, .inr ⟨k, b, hb, rfl, o1, o2⟩⟩, us, q4, q5⟩
      have hwp := den_wp hf.few hm hL hΓ ⟨hgp, hf.rd⟩ fa.body hf.draws _ _ w m e st h0 hd
      refine calls_of_wp hfn hbody (wp_mono hwp ?_)
      rintro ex a' w' ⟨he, m', hR⟩
      have fin : ∀ (hr : (do let gs ← getAll L st fa.results; let (vs, _) ← freezeAll fa.np fa.frz st gs; let r ← lentOut st 0 lent; some (oneOrTup vs, r)) = some (r, lent')),
          ∃ v, (results fn a'.tmps).run P w' = .ok v w' ∧ ∃ x, Ending.returned v = .returned x ∧ CallPost w w' tag lent lent' m r x := by
        intro hr
        cases hga : getAll L st fa.results with
        | none => simp [hga] at hr
        | some gs =>
        obtain ⟨xs, hxs, hrun⟩ := getAll_ok hL hR fa.results gs hga
        cases hfr : freezeAll fa.np fa.frz st gs with
        | none => simp [hga, hfr] at hr
        | some q =>
          obtain ⟨outs, ss⟩ := q
          cases hlo : lentOut st 0 lent with
          | none => simp [hga, hfr, hlo] at hr
          | some lo =>
            simp only [hga, hfr, hlo, Option.bind_eq_bind, Option.bind_some, Option.some.injEq, Prod.mk.injEq] at hr
            obtain ⟨rfl, rfl⟩ := hr
            obtain ⟨rs, g1, g2, g3⟩ := freezeAll_ok hR fa.frz _ _ outs ss hxs hfr
            obtain ⟨l1, l2, l3⟩ := lentOut_ok 0 lent lo hlo
            refine ⟨_, run_results hres hrun, _, rfl, ⟨hR.pres, ?_, l1, l2, fun k old hk => ?_⟩⟩
            · refine ⟨rs, ?_, g2⟩
              match xs with
              | [] =>
                cases g1
                exact .tup .nil
              | [k] =>
                cases g1 with
                | cons hx hs => cases hs; simp only [oneOrTup, List.append_nil]; exact .one hx
              | k1 :: k2 :: ks =>
                cases g1 with
                | cons hx hs =>
                  cases hs with
                  | cons hy ht => exact .tup (.cons hx (.cons hy ht))
            · obtain ⟨new, k1, k2, k3, k4⟩ := l3 k old hk
              rw [Nat.zero_add] at k2
              obtain ⟨blk, b1, b2, rfl⟩ := blkOf_some k2
              have hbase : m'.base k = m.base k := ((hR.blk k blk b1).2.1 b2).1
              rcases hR.blkAt b1 with ⟨q1, q2⟩ | ⟨cs, e, fr, r1, r2, r3, r4, r5, us, r6, r7⟩
              · exact ⟨_, [], k1, k3, by rw [q1]; exact .nil, by simp⟩
              · refine ⟨_, us, k1, k3, r6.pvs k4, fun j v hj => ?_⟩
                rw [← hbase, block_cell r1]
                exact r7 j v hj
      cases e with
      | normal =>
        cases ex <;> simp only [Ex.is] at he
        exact ⟨hR.defers, fin hr⟩
      | ret =>
        cases ex <;> simp only [Ex.is] at he
        exact ⟨hR.defers, fin hr⟩
      | exit i => cases hr
  · cases hr

end

end Go.Sim
