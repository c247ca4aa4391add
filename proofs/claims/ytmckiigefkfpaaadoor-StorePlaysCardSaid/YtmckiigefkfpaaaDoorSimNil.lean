/- A function whose way hangs on whether a slice is nil: slices.Clone, by its code. -/
import Derived.Test.YtmckiigefkfpaaaDoorSimExt
import Derived.Laws.Cover3
set_option linter.unusedVariables false
set_option linter.unusedSimpArgs false
namespace Go.Sim
open Go

section
variable {P : Program} {L : Nat → Option TI} {Γ : Oracle}

def endsOk : Ex → Bool
  | .exit _ => false
  | _ => true

/-- A result that says less. -/
def Less (r0 r : AV) : Prop := r0 = r ∨ (r0 = .nsl ∧ ∃ z, r = .fsl z 0 [])

theorem Less.res {w : World} {B : Nat} {r0 r : AV} {x : Value} {rs : List Reg} (h : Less r0 r) (hr : Res w B r0 x rs) : Res w B r x rs := by
  rcases h with rfl | ⟨rfl, z, rfl⟩
  · exact hr
  · cases hr with
    | one h1 =>
      cases h1 with
      | plain hp =>
        obtain ⟨a, rfl⟩ := hp
        exact .one .fslnil

/-- A function's call, its code's way told for each beginning. -/
theorem fn_ok2 (hL : LOK P L) {f : Nat} {fa : AFn} (hf : FnOK P L f fa) {tag : Nat} {args : List AV} {lent lent' : List (Option (List AV))} {r : AV}
    (hla : args.length = fa.np) (hll : lent.length = fa.np)
    (H : ∀ (w : World) (m : Mp) (a : Act), GlobP P m.gl → RelM ⟨w, Own ⟨w, lentHeap tag 0 lent, m, tag, 1⟩, fa.np, m.base, m.ext, m.ban, m.gl⟩ fa.ann.nt { env := argEnv 0 args, heap := lentHeap tag 0 lent, next := 1, tag } a w m →
      fa.body.wp P (fun ex a' w' => ∃ (e : Ex) (st : St) (r0 : AV), Ends ⟨w, Own ⟨w, lentHeap tag 0 lent, m, tag, 1⟩, fa.np, m.base, m.ext, m.ban, m.gl⟩ fa.ann.nt e st ex a' w' ∧ endsOk e = true ∧
        (do let gs ← getAll L st fa.results; let (vs, _) ← freezeAll fa.np fa.frz st gs; let r ← lentOut st 0 lent; some (oneOrTup vs, r)) = some (r0, lent') ∧ Less r0 r) a w) :
    CallOK P f tag args lent r lent' := by
  intro w vs m pre hgp
  obtain ⟨fn, hfn, hbody, hnt, hres⟩ := hf.fn
  refine .inl ⟨hf.enter _ _, ?_⟩
  have hvl := pre.args.length
  -- the beginning
  have h0 : RelM ⟨w, Own ⟨w, lentHeap tag 0 lent, m, tag, 1⟩, fa.np, m.base, m.ext, m.ban, m.gl⟩ fa.ann.nt { env := argEnv 0 args, heap := lentHeap tag 0 lent, next := 1, tag }
      { tmps := vs.toArray ++ Array.replicate (fn.ntmps - vs.toArray.size) undef, defers := [] } w m := by
    refine ⟨rfl, ?_, Nat.le_refl _, ⟨pre.mB.1, pre.mB.2, rfl, rfl, fun g v hv => ⟨⟨(pre.glob g v hv).1.1, fun x => (pre.glob g v hv).1.2 (.inl x), fun x => (pre.glob g v hv).1.2 (.inr x)⟩, (pre.glob g v hv).2⟩⟩, fun k v hk => ?_, Pres.refl _ _, fun k b hb => ?_, pre.apart⟩
    · have := hf.le; simp; omega
    · simp only [aget_argEnv, Nat.zero_le, if_true, Nat.sub_zero] at hk
      obtain ⟨x, g1, g2, _⟩ := pre.args.get hk
      have hlt : k < vs.length := (List.getElem?_eq_some_iff.1 g1).1
      rw [Array.getD_eq_getD_getElem?, Array.getElem?_append_left (by simpa using hlt)]
      simp only [List.getElem?_toArray, g1, Option.getD_some]
      exact g2
    · obtain ⟨g1, g2⟩ := pre.blk k b hb
      have hb' := hb
      have hkl : k < lent.length := by
        simp only [aget_lentHeap, Nat.zero_le, if_true, Nat.sub_zero] at hb'
        by_cases hk : k < lent.length
        · exact hk
        · rw [List.getElem?_eq_none (by omega)] at hb'; cases hb'
      have hst : b.stamp = (tag, 0) := by
        simp only [aget_lentHeap, Nat.zero_le, if_true, Nat.sub_zero] at hb'
        split at hb'
        · simp only [Option.some.injEq] at hb'; rw [← hb']
        · cases hb'
      refine ⟨by rw [hst]; exact okS_new tag 0, fun _ => ⟨rfl, rfl⟩, ?_⟩
      refine cellsI (key_slot (by have := hf.le; have := hf.few; omega)) ?_
      rcases g2 with g2 | ⟨cs, e, fr, q1, q2, q3, us, q4, q5⟩
      · exact .inl ⟨g2, by show m.ext k = 0; rw [g1, g2]; rfl⟩
      · refine .inr ⟨cs, e, fr, q1, q2, by show _ ≤ m.ext k; omega, fun hnp => by simp only at hnp; omega, fun o o1 o2 => ⟨q3 o o1 o2, .inr ⟨k, b, hb, rfl, o1, o2⟩⟩, us, q4, q5⟩
  refine calls_of_wp hfn hbody (wp_mono (H _ _ _ hgp h0) ?_)
  rintro ex a' w' ⟨e, st, r0, ⟨he, m', hR⟩, hends, hpost, hless⟩
  have fin : ∀ (hr : (do let gs ← getAll L st fa.results; let (vs, _) ← freezeAll fa.np fa.frz st gs; let r ← lentOut st 0 lent; some (oneOrTup vs, r)) = some (r0, lent')),
      ∃ v, (results fn a'.tmps).run P w' = .ok v w' ∧ ∃ x, Ending.returned v = .returned x ∧ CallPost w w' tag lent lent' m r x := by
    intro hr
    cases hga : getAll L st fa.results with
    | none => simp [hga] at hr
    | some gs =>
    obtain ⟨xs, hxs, hrun⟩ := getAll_ok hL hR fa.results gs hga
    cases hfr : freezeAll fa.np fa.frz st gs with
    | none => simp [hga, hfr] at hr
    | some q =>
      obtain ⟨outs, ss⟩ := q
      cases hlo : lentOut st 0 lent with
      | none => simp [hga, hfr, hlo] at hr
      | some lo =>
        simp only [hga, hfr, hlo, Option.bind_eq_bind, Option.bind_some, Option.some.injEq, Prod.mk.injEq] at hr
        obtain ⟨rfl, rfl⟩ := hr
        obtain ⟨rs, g1, g2, g3⟩ := freezeAll_ok hR fa.frz _ _ outs ss hxs hfr
        obtain ⟨l1, l2, l3⟩ := lentOut_ok 0 lent lo hlo
        refine ⟨_, run_results hres hrun, _, rfl, ⟨hR.pres, ?_, l1, l2, fun k old hk => ?_⟩⟩
        · refine ⟨rs, Less.res hless ?_, g2⟩
          match xs with
          | [] =>
            cases g1
            exact .tup .nil
          | [k] =>
            cases g1 with
            | cons hx hs => cases hs; simp only [oneOrTup, List.append_nil]; exact .one hx
          | k1 :: k2 :: ks =>
            cases g1 with
            | cons hx hs =>
              cases hs with
              | cons hy ht => exact .tup (.cons hx (.cons hy ht))
        · obtain ⟨new, k1, k2, k3, k4⟩ := l3 k old hk
          rw [Nat.zero_add] at k2
          obtain ⟨blk, b1, b2, rfl⟩ := blkOf_some k2
          have hbase : m'.base k = m.base k := ((hR.blk k blk b1).2.1 b2).1
          rcases hR.blkAt b1 with ⟨q1, q2⟩ | ⟨cs, e, fr, r1, r2, r3, r4, r5, us, r6, r7⟩
          · exact ⟨_, [], k1, k3, by rw [q1]; exact .nil, by simp⟩
          · refine ⟨_, us, k1, k3, r6.pvs k4, fun j v hj => ?_⟩
            rw [← hbase, block_cell r1]
            exact r7 j v hj
  cases e with
  | normal =>
    cases ex <;> simp only [Ex.is] at he
    exact ⟨hR.defers, fin hpost⟩
  | ret =>
    cases ex <;> simp only [Ex.is] at he
    exact ⟨hR.defers, fin hpost⟩
  | exit i => cases hends

/-- The code of slices.Clone at a type. -/
def cloneBody (t : Nat) : Code :=
  (Code.region 0 #[{ dst := some 2, op := Op.assign (Operand.const (Value.slice none 0 0)), type := t, pos := "slices.go:355", after := #[], guard := none }] false).seq
    (((Code.region 1 #[{ dst := some 3, op := Op.move (Operand.tmp 0), type := t, pos := "slices.go:357", after := #[], guard := none },
        { dst := some 4, op := Op.binOp BinOp.eql t (Operand.tmp 3) (Operand.const (Value.slice none 0 0)) t, type := 4, pos := "slices.go:357", after := #[{ on := 0, ground := Ground.data }], guard := none }] false).seq
      (Code.cond (Operand.tmp 4)
        ((Code.region 2 #[{ dst := some 2, op := Op.assign (Operand.const (Value.slice none 0 0)), type := t, pos := "slices.go:358", after := #[], guard := none }] false).seq Code.ret)
        Code.skip)).seq
      ((Code.region 3 #[{ dst := some 5, op := Op.buildSlice t 0 #[], type := t, pos := "slices.go:362", after := #[], guard := none },
        { dst := some 6, op := Op.move (Operand.tmp 0), type := t, pos := "slices.go:362", after := #[], guard := none },
        { dst := some 7, op := Op.call { callee := Callee.builtin Builtin.append, args := #[Operand.tmp 5, Operand.tmp 6], argTypes := #[t, t] }, type := t, pos := "slices.go:362", after := #[{ on := 0, ground := Ground.data }, { on := 1, ground := Ground.data }], guard := none },
        { dst := some 2, op := Op.assign (Operand.tmp 7), type := t, pos := "slices.go:362", after := #[{ on := 2, ground := Ground.data }, { on := 2, ground := Ground.chain }, { on := 0, ground := Ground.phase }, { on := 1, ground := Ground.phase }, { on := 2, ground := Ground.phase }], guard := none }] false).seq
        Code.ret))
def cloneAnn : Ann := { nt := 8, cross := [0, 2], heads := [], own := [], reads := [], stores := [], ro := [], hp := [] }
def cloneA (t : Nat) : AFn := { body := cloneBody t, np := 1, results := [.tmp 2], ann := cloneAnn, frz := [] }

/-- slices.Clone, as the interpreter has it (at elements of so many cells, bytes). -/
def cloneLaw (z bt : Nat) (_ : Nat) (args : List AV) (lent : List (Option (List AV))) : Option (AV × List (Option (List AV))) :=
  match args, lent with
  | [.isl z' n cells], [none] => if z' = z ∧ cells.length = n * z ∧ n * bt ≤ 140737488355328 ∧ cells.all AV.plain = true then some (.fsl z n cells, [none]) else none
  | [.nsl], [none] => some (.fsl z 0 [], [none])
  | _, _ => none

theorem nilOp_goes {c : Cx} {nt : Nat} {st : St} {a : Act} {w : World} {m : Mp} {o : Oper} {t e : Nat} (hu : P.underlying t = some (.slice e)) {x : Operand} (ho : o.op = .binOp .eql t x (.const (.slice none 0 0)) t)
    (h : RelM c nt st a w m) {ad : Option Addr} {n cp : Nat} (hx : a.eval x = .slice ad n cp) : Goes P c nt a o w (.bool ad.isNone) st := by
  refine goes_value (y := .bool ad.isNone) ?_ h (.bool _)
  have g1 : (do eqGuard .eql t x (.const (.slice none 0 0)) (a.eval x) (a.eval (.const (.slice none 0 0))); binOp .eql t (a.eval x) (a.eval (.const (.slice none 0 0))) : Sem Value).run P w = .ok (.bool ad.isNone) w := by
    rw [hx]
    show Sem.run P (do eqGuard .eql t x (.const (.slice none 0 0)) (.slice ad n cp) (.slice none 0 0); binOp .eql t (.slice ad n cp) (.slice none 0 0)) w = _
    simp only [eqGuard, binOp]
    simp [run_equal_slice_nil w t e ad n cp hu]
  simp only [execOp, ho]
  rw [Sem.run_bind, g1]
  rfl

theorem clone_fn {f t : Nat} {fn : Func} (hfn : P.funcs[f]? = some fn) (hb : fn.body = some (cloneBody t)) (hn : fn.ntmps = 8) (hr : fn.results = #[.tmp 2]) (hp : fn.name ≠ "runtime.NumGoroutine") : FnOK P L f (cloneA t) := by
  refine ⟨rfl, ⟨fn, hfn, hb, hn, hr⟩, fun args w => ?_, (by decide : 1 ≤ 8), (by decide : 8 ≤ 500000), fun g h => (by cases h)⟩
  simp [callFunc, hfn, hp, hb, mark]

theorem clone_ok (hm : P.follows .mixedOrders = true) (hL : LOK P L) {f t e z bt : Nat} {it ie : TI} (hf : FnOK P L f (cloneA t)) (hi : L t = some it) (hd : it.desc = .slice e) (he : L e = some ie)
    (hz : ie.size = z) (hb : ie.bytes = bt) (hz0 : 0 < z) (hb0 : 0 < bt) (hzz : ie.zero = [] ∨ ie.zero.length = z) (hzl : ie.zero.length = ie.size) :
    ∀ tag args lent r lent', cloneLaw z bt tag args lent = some (r, lent') → CallOK P f tag args lent r lent' := by
  intro tag args lent r lent' h
  have hΓ : OracleOK P (fun _ _ _ _ => none) := ⟨fun f tag args lent r lent' h => (by cases h), fun f tag args lent r lent' h => (by cases h)⟩
  have hu : P.underlying t = some (.slice e) := sliceBy (hL t it hi) hd
  subst hz
  subst hb
  have key : ∀ (n : Nat) (cells : List AV) (arg : AV) (hl : lent = [none]), (arg = .isl ie.size n cells ∨ (arg = .nsl ∧ n = 0 ∧ cells = [])) → args = [arg] → cells.length = n * ie.size → n * ie.bytes ≤ 140737488355328 → cells.all AV.plain = true → r = .fsl ie.size n cells → lent' = [none] →
      CallOK P f tag args lent r lent' := by
    rintro n cells arg rfl harg rfl hlen hbyt hpl rfl rfl
    refine fn_ok2 hL hf rfl rfl fun w m a hgp h0 => ?_
    have d0 : den loopω L cloneAnn (fun _ _ _ _ => none) (Code.region 0 #[{ dst := some 2, op := Op.assign (Operand.const (Value.slice none 0 0)), type := t, pos := "slices.go:355", after := #[], guard := none }] false) { env := argEnv 0 [arg], heap := lentHeap tag 0 [none], next := 1, tag } =
        some (.normal, { env := [(0, arg), (2, .nsl)], heap := [], next := 1, tag }) := rfl
    refine wp_seq (wp_mono (den_wp (show 8 ≤ 500000 by decide) hm hL hΓ ⟨hgp, fun g h => (by cases h)⟩ _ rfl _ _ _ _ _ _ h0 d0) ?_)
    rintro ex a1 w1 ⟨hex, m1, h1⟩
    cases ex <;> simp only [Ex.is] at hex
    -- is it nil?
    refine wp_seq (wp_seq (wp_region_list ?_))
    simp only []
    have s1 : denOp L cloneAnn (fun _ _ _ _ => none) { env := [(0, arg), (2, .nsl)], heap := [], next := 1, tag } 3 t (.move (.tmp 0)) = some (arg, { env := [(0, arg), (2, .nsl)], heap := [], next := 1, tag }) := rfl
    unfold wpList
    rw [if_pos (by rfl)]
    refine .inl (denOp_goes (o := { dst := some 3, op := Op.move (Operand.tmp 0), type := t, pos := "slices.go:357", after := #[], guard := none }) hL hΓ ⟨hgp, fun g h => (by cases h)⟩ h1 rfl s1 (show 3 < 500000 by decide) _ _ fun y w2 m2 hR hV => ?_)
    have h2 := hR.put (d := some 3) (show 3 < 8 by decide) hV
    unfold wpList
    rw [if_pos (by rfl)]
    have hv := operand_ok h2 (.tmp 3)
    have hv2 : VR (At (putD { env := [(0, arg), (2, .nsl)], heap := [], next := 1, tag } (some 3) arg) w2 m2) arg _ := hv
    obtain ⟨ad, n', cp, hx, hnil⟩ : ∃ ad n' cp, (a1.put (some 3) y).eval (.tmp 3) = .slice ad n' cp ∧ (ad = none → n = 0 ∧ cells = []) := by
      rcases harg with rfl | ⟨rfl, rfl, rfl⟩
      · rcases VR.isl_inv (.inl hv2) with ⟨ad, cap, us, hh, _⟩ | ⟨ad, cap, hh, rfl, rfl⟩
        · exact ⟨some ad, _, _, hh, fun q => by cases q⟩
        · exact ⟨ad, _, _, hh, fun _ => ⟨rfl, rfl⟩⟩
      · generalize (a1.put (some 3) y).eval (.tmp 3) = vx at hv2
        cases hv2 with
        | nsl => exact ⟨_, _, _, rfl, fun _ => ⟨rfl, rfl⟩⟩
    refine .inl (nilOp_goes (t := t) hu rfl h2 hx _ _ fun y3 w3 m3 hR3 hV3 => ?_)
    have h3 := hR3.put (d := some 4) (show 4 < 8 by decide) hV3
    unfold wpList
    refine wp_cond (operand_ok h3 (.tmp 4)).bool_inv ?_
    cases ad with
    | none =>
      obtain ⟨rfl, rfl⟩ := hnil rfl
      simp only [Option.isNone_none, if_true]
      have dA : den loopω L cloneAnn (fun _ _ _ _ => none) ((Code.region 2 #[{ dst := some 2, op := Op.assign (Operand.const (Value.slice none 0 0)), type := t, pos := "slices.go:358", after := #[], guard := none }] false).seq Code.ret)
          { env := [(0, arg), (2, .nsl), (3, arg), (4, .bool true)], heap := [], next := 1, tag } = some (.ret, { env := [(0, arg), (2, .nsl), (3, arg), (4, .bool true)], heap := [], next := 1, tag }) := rfl
      refine wp_mono (den_wp (show 8 ≤ 500000 by decide) hm hL hΓ ⟨hgp, fun g h => (by cases h)⟩ _ rfl _ _ _ _ _ _ h3 dA) ?_
      rintro ex a4 w4 ⟨hex4, m4, h4⟩
      cases ex <;> simp only [Ex.is] at hex4
      exact ⟨.ret, _, .nsl, ⟨trivial, m4, h4⟩, rfl, rfl, .inr ⟨rfl, _, rfl⟩⟩
    | some ad =>
      simp only [Option.isNone_some, Bool.false_eq_true, if_false]
      refine wp_skip ?_
      have hsl : ∀ st, slCells st ie.size arg = some (n, cells) := fun st => by
        rcases harg with rfl | ⟨rfl, rfl, rfl⟩
        · simp [slCells, hlen]
        · rfl
      have hse : slElem L t = some ie := by simp [slElem, hi, hd, he]
      have dB : den loopω L cloneAnn (fun _ _ _ _ => none) ((Code.region 3 #[{ dst := some 5, op := Op.buildSlice t 0 #[], type := t, pos := "slices.go:362", after := #[], guard := none },
        { dst := some 6, op := Op.move (Operand.tmp 0), type := t, pos := "slices.go:362", after := #[], guard := none },
        { dst := some 7, op := Op.call { callee := Callee.builtin Builtin.append, args := #[Operand.tmp 5, Operand.tmp 6], argTypes := #[t, t] }, type := t, pos := "slices.go:362", after := #[{ on := 0, ground := Ground.data }, { on := 1, ground := Ground.data }], guard := none },
        { dst := some 2, op := Op.assign (Operand.tmp 7), type := t, pos := "slices.go:362", after := #[{ on := 2, ground := Ground.data }, { on := 2, ground := Ground.chain }, { on := 0, ground := Ground.phase }, { on := 1, ground := Ground.phase }, { on := 2, ground := Ground.phase }], guard := none }] false).seq
        Code.ret) { env := [(0, arg), (2, .nsl), (3, arg), (4, .bool false)], heap := [], next := 1, tag } =
          some (.ret, { env := [(0, arg), (2, .msl 5 (tag, 2) ie.size 0 n), (3, arg), (4, .bool false)], heap := [(5, ⟨(tag, 2), cells⟩)], next := 3, tag }) := by
        simp [den, denOps, denOper, runs, denOp, hse, fillA, parts, newBlk, aBuiltin, aAppend, operand, aget, aput, putD, cloneAnn, hsl, blkOf, show isMapKey 5 = false from rfl, hz0, hb0, hbyt, hzl, tidy, adel, repl]
      refine wp_mono (den_wp (show 8 ≤ 500000 by decide) hm hL hΓ ⟨hgp, fun g h => (by cases h)⟩ _ rfl _ _ _ _ _ _ h3 dB) ?_
      rintro ex a4 w4 ⟨hex4, m4, h4⟩
      cases ex <;> simp only [Ex.is] at hex4
      refine ⟨.ret, _, .fsl ie.size n cells, ⟨trivial, m4, h4⟩, rfl, ?_, .inl rfl⟩
      simp [-List.all_eq_true, cloneA, getAll, getRes, aget, freezeAll, freezeOne, freezeSl, blkOf, show isMapKey 5 = false from rfl, hz0, hlen, hpl, lentOut, oneOrTup]
  unfold cloneLaw at h
  split at h
  · rename_i z' n cells
    split at h
    · rename_i hc
      obtain ⟨rfl, h1, h2, h3⟩ := hc
      simp only [Option.some.injEq, Prod.mk.injEq] at h
      obtain ⟨rfl, rfl⟩ := h
      exact key n cells _ rfl (.inl rfl) rfl h1 h2 h3 rfl rfl
    · cases h
  · simp only [Option.some.injEq, Prod.mk.injEq] at h
    obtain ⟨rfl, rfl⟩ := h
    exact key 0 [] _ rfl (.inr ⟨rfl, rfl, rfl⟩) rfl (by simp) (by omega) rfl rfl rfl
  · cases h

end
end Go.Sim
