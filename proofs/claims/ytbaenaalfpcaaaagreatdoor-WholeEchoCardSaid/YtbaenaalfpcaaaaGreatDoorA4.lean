/- Part of the proof: an interpreter of the model, proved sound, and what it makes of the functions. -/
import Derived.Test.YtbaenaalfpcaaaaGreatDoorA3
import Derived.Lib.Bytealg
import Derived.Laws.Externs
import Derived.Laws.Cover3
import Derived.LaidMore
import Derived.LaidLaws
import Derived.LaidHandle
import Derived.Stop.Joined
set_option linter.unusedVariables false
set_option linter.unusedSimpArgs false
section
namespace Go.Sim
open Go
def idxOf : List Int → Int → Int
 | [], _ => -1
 | x :: l, c => if x.toNat % 256 = c.toNat % 256 then 0 else if idxOf l c = -1 then -1 else idxOf l c + 1
theorem u8_beq (x c : Int) : (UInt8.ofNat x.toNat == c.toNat.toUInt8) = decide (x.toNat % 256 = c.toNat % 256) := by
 by_cases h : x.toNat % 256 = c.toNat % 256
 ·rw [decide_eq_true h, beq_iff_eq]
  apply UInt8.toNat_inj.1
  simpa using h
 ·rw [decide_eq_false h, beq_eq_false_iff_ne]
  intro e
  apply h
  have := congrArg UInt8.toNat e
  simpa using this
theorem idx_eq (xs : List Int) (c : Int) : Lib.indexByte (xs.map fun n => UInt8.ofNat n.toNat) c.toNat.toUInt8 = idxOf xs c := by
 induction xs with
 | nil => rfl
 | cons x xs ih =>
  simp only [List.map_cons, Lib.indexByte, idxOf, ih, u8_beq, decide_eq_true_eq, beq_iff_eq]
theorem znv {P : Program} (w : World) : ∀ (xs : List Int) (a : Addr) (acc : ByteArray), (∀ (j : Nat) (x : Int), xs[j]? = some x → w.cell? (a.add j) = some (.int .u8 x)) →
  (Extern.Bytes.loadBytes a xs.length acc).run P w = .ok ⟨acc.data ++ (xs.map fun n => UInt8.ofNat n.toNat).toArray⟩ w
 | [], a, acc, _ => by simp [Extern.Bytes.loadBytes]
 | x :: l, a, acc, h => by
  have h0 : w.cell? a = some (.int .u8 x) := by
   have := h 0 x rfl
   simpa [Addr.add] using this
  have ih := znv (P := P) w l (a.add 1) (acc.push x.toNat.toUInt8) (fun j y hy => by
   have := h (j + 1) y (by simpa using hy)
   have e : (a.add 1).add j = a.add (j + 1) := by
    unfold Addr.add
    by_cases hj : j = 0
    ·subst hj; simp
    ·simp [hj]; omega
   rw [e]; exact this)
  simp only [List.length_cons, Extern.Bytes.loadBytes, Sem.run_bind, run_load, h0, Result.andThen]
  rw [ih]
  congr 1
  apply ByteArray.ext
  simp [ByteArray.push]
theorem run_idx {P : Program} (w : World) (a : Addr) (n c : Nat) (xs : List Int) (hx : xs.length = n) (hc : ∀ (j : Nat) (x : Int), xs[j]? = some x → w.cell? (a.add j) = some (.int .u8 x)) (cv : Int) :
  (Extern.BytealgIndexByte.indexByte #[.slice (some a) n c, .int .u8 cv]).run P w = .ok (.int .i64 (idxOf xs cv)) w := by
 have hl := znv (P := P) w xs a .empty hc
 rw [hx] at hl
 have hs := Lib.run_indexByteString (P := P) ⟨(xs.map fun n => UInt8.ofNat n.toNat).toArray⟩ cv w
 have he : (⟨ByteArray.empty.data ++ (xs.map fun n => UInt8.ofNat n.toNat).toArray⟩ : ByteArray) = ⟨(xs.map fun n => UInt8.ofNat n.toNat).toArray⟩ := by
  apply ByteArray.ext
  show (#[] : Array UInt8) ++ (xs.map fun n => UInt8.ofNat n.toNat).toArray = (xs.map fun n => UInt8.ofNat n.toNat).toArray
  simp
 rw [he] at hl
 change Sem.run P (do
  let b ← Extern.Bytes.bytesOf (.slice (some a) n c)
  let c ← Extern.Bytes.asByte (.int .u8 cv)
  match (List.range b.size).find? fun i => b[i]! == c with
  | some i => pure (goInt i)
  | none => pure (goInt (-1))) w = _
 change Sem.run P (do
  let b ← Extern.Bytes.bytesOf (.string ⟨(xs.map fun n => UInt8.ofNat n.toNat).toArray⟩)
  let c ← Extern.Bytes.asByte (.int .u8 cv)
  match (List.range b.size).find? fun i => b[i]! == c with
  | some i => pure (goInt i)
  | none => pure (goInt (-1))) w = _ at hs
 simp only [Extern.Bytes.bytesOf, Sem.run_bind, Sem.run_pure, hl, Result.andThen] at hs ⊢
 rw [hs, idx_eq]
def idxLaw (_ : Nat) (args : List AV) (lent : List (Option (List AV))) : Option (AV × List (Option (List AV))) :=
 match args, lent with
 | [.isl z n cells, .int .u8 c], [none, none] => if z = 1 ∧ cells.length = n then (u8s cells).map fun xs => (.int .i64 (idxOf xs c), [none, none]) else none
 | _, _ => none
theorem idx_ok {P : Program} {f : FuncId} {fn : Func} (hf : P.funcs[f]? = some fn) (hname : (fn.name == "runtime.NumGoroutine") = false)
  (hb : fn.body.isNone = true) (hn : Extern.findNext fn = none) (he : Extern.find fn = some Extern.BytealgIndexByte.indexByte)
  (tag : Nat) (args : List AV) (lent : List (Option (List AV))) (r : AV) (lent' : List (Option (List AV))) (h : idxLaw tag args lent = some (r, lent')) : CallOK P f tag args lent r lent' := by
 unfold idxLaw at h
 split at h
 ·rename_i z n cells c
  split at h
  ·rename_i hc
   obtain ⟨rfl, hlen⟩ := hc
   cases hu : u8s cells with
   | none => simp [hu] at h
   | some xs =>
    simp only [hu, Option.map_some, qO1, qO4] at h
    obtain ⟨rfl, rfl⟩ := h
    intro w vs m pre _
    obtain ⟨x, y, rfl, hx, hy⟩ := pre.args.two_inv
    have hyv := hy.int_inv
    subst hyv
    refine .inr (.inl ⟨.int .i64 (idxOf xs c), w, ?_, ?_⟩)
    ·rw [run_callFunc_extern hf hname hb hn he]
     have key : (Extern.BytealgIndexByte.indexByte #[x, .int .u8 c]).run P w = .ok (.int .i64 (idxOf xs c)) w := by
      rcases VR.isl_inv (.inl hx) with ⟨ad, cap, us, rfl, ha, hl, hr, hv⟩ | ⟨ad, cap, rfl, rfl, rfl⟩
      ·have hus := u8s_ok hv hu
       subst hus
       have hl2 := hv.length
       simp only [List.length_map] at hl2
       refine run_idx w ad n cap xs (by omega) (fun j x hj => ?_) c
       rw [zd7 ha]
       exact (hr j (.int .u8 x) (by rw [List.getElem?_map, hj]; rfl)).1
      ·simp only [u8s, qO1] at hu
       subst hu
       cases ad with
       | none =>
        have hs := Lib.run_indexByteString (P := P) .empty c w
        exact hs
       | some ad => exact run_idx w ad 0 cap [] rfl (fun j x hj => by simp at hj) c
     show ((Extern.BytealgIndexByte.indexByte [x, Value.int .u8 c].toArray).run P w).andThen _ = _
     rw [show ([x, Value.int .u8 c].toArray : Array Value) = #[x, .int .u8 c] from rfl, key]
     rfl
    ·refine ⟨Pres.refl _ _, ⟨[], .one (.plain rfl), .nil⟩, rfl, fun k hk => ?_, fun k old hk => ?_⟩
     ·exact hk
     ·match k, hk with
      | 0, hk => cases hk
      | 1, hk => cases hk
      | k + 2, hk => cases hk
  ·cases h
 ·cases h
end Go.Sim
end
section
namespace Go.Sim
open Go
section
variable {P : Program} {L : Nat → Option TI} {Γ : Oracle}
def endsOk : Ex → Bool
 | .exit _ => false
 | _ => true
def Less (r0 r : AV) : Prop := r0 = r ∨ (r0 = .nsl ∧ ∃ z, r = .fsl z 0 [])
theorem Less.res {w : World} {B : Nat} {gl : Nat → Option Value} {r0 r : AV} {x : Value} {rs : List Reg} (h : Less r0 r) (hr : Res w B gl r0 x rs) : Res w B gl r x rs := by
 rcases h with rfl | ⟨rfl, z, rfl⟩
 ·exact hr
 ·cases hr with
  | one h1 =>
   cases h1 with
   | plain hp =>
    obtain ⟨a, rfl⟩ := hp
    exact .one .fslnil
theorem fn_ok2 (hL : LOK P L) {f : Nat} {fa : AFn} (hf : FnOK P L f fa) {tag : Nat} {args : List AV} {lent lent' : List (Option (List AV))} {r : AV}
  (hla : args.length = fa.np) (hll : lent.length = fa.np)
  (H : ∀ (w : World) (m : Mp) (a : Act), GlobP P m.gl → RelM ⟨w, Own ⟨w, lentHeap tag 0 lent, m, tag, 1⟩, fa.np, m.base, m.ext, m.ban, m.gl, m.tk⟩ fa.ann.nt { env := argEnv 0 args, heap := lentHeap tag 0 lent, next := 1, tag } a w m →
   fa.body.wpIn (fenR none) 0 P (fun ex a' w' => ∃ (e : Ex) (st : St) (r0 : AV), Ends ⟨w, Own ⟨w, lentHeap tag 0 lent, m, tag, 1⟩, fa.np, m.base, m.ext, m.ban, m.gl, m.tk⟩ fa.ann.nt e st ex a' w' ∧ endsOk e = true ∧
    (do let gs ← getAll L st fa.results; let (vs, _) ← freezeAll fa.np fa.frz st gs; let r ← lentOut st 0 lent; some (oneOrTup vs, r)) = some (r0, lent') ∧ Less r0 r) a w) :
  CallOK P f tag args lent r lent' := by
 intro w vs m pre hgp
 obtain ⟨fn, hfn, hbody, hnt, hres⟩ := hf.fn
 refine .inl ⟨hf.enter _ _, ?_⟩
 have hvl := pre.args.length
 have h0 : RelM ⟨w, Own ⟨w, lentHeap tag 0 lent, m, tag, 1⟩, fa.np, m.base, m.ext, m.ban, m.gl, m.tk⟩ fa.ann.nt { env := argEnv 0 args, heap := lentHeap tag 0 lent, next := 1, tag }
   {tmps := vs.toArray ++ Array.replicate (fn.ntmps - vs.toArray.size) undef, defers := [] } w m := by
  refine ⟨Marks.nil, ?_, Nat.le_refl _, ⟨pre.mB.1, pre.mB.2, rfl, rfl, fun g v hv => ⟨⟨(pre.glob g v hv).1.1, fun x => (pre.glob g v hv).1.2 (.inl x), fun x => (pre.glob g v hv).1.2 (.inr x)⟩, (pre.glob g v hv).2⟩, rfl⟩, fun k v hk => ?_, Pres.refl _ _, fun k b hb => ?_, pre.apart⟩
  ·have := hf.le; simp; omega
  ·simp only [zec, Nat.zero_le, if_true, Nat.sub_zero] at hk
   obtain ⟨x, g1, g2, _⟩ := pre.args.get hk
   have hlt : k < vs.length := (List.getElem?_eq_some_iff.1 g1).1
   rw [Array.getD_eq_getD_getElem?, Array.getElem?_append_left (by simpa using hlt)]
   simp only [List.getElem?_toArray, g1, Option.getD_some]
   exact g2
  ·obtain ⟨g1, g2⟩ := pre.blk k b hb
   have hb' := hb
   have hkl : k < lent.length := by
    simp only [zas, Nat.zero_le, if_true, Nat.sub_zero] at hb'
    by_cases hk : k < lent.length
    ·exact hk
    ·rw [List.getElem?_eq_none (by omega)] at hb'; cases hb'
   have hst : b.stamp = (tag, 0) := by
    simp only [zas, Nat.zero_le, if_true, Nat.sub_zero] at hb'
    split at hb'
    ·simp only [qO1] at hb'; rw [← hb']
    ·cases hb'
   refine ⟨by rw [hst]; exact zay tag 0, fun _ => ⟨rfl, rfl⟩, ?_⟩
   refine cellsI (zm2 (by have := hf.le; have := hf.few; omega)) ?_
   rcases g2 with g2 | ⟨cs, e, fr, q1, q2, q3, us, q4, q5⟩
   ·exact .inl ⟨g2, by show m.ext k = 0; rw [g1, g2]; rfl⟩
   ·refine .inr ⟨cs, e, fr, q1, q2, by show _ ≤ m.ext k; omega, fun hnp => by simp only at hnp; omega, fun o o1 o2 => ⟨q3 o o1 o2, .inr ⟨k, b, hb, rfl, o1, o2⟩⟩, us, q4, q5⟩
 refine zdb.1 (callsIn_of_wp_marks hfn hbody trivial (Go.wpIn_mono (H _ _ _ hgp h0) ?_))
 rintro ex a' w' ⟨e, st, r0, ⟨he, m', hR⟩, hends, hpost, hless⟩
 have fin : ∀ (hr : (do let gs ← getAll L st fa.results; let (vs, _) ← freezeAll fa.np fa.frz st gs; let r ← lentOut st 0 lent; some (oneOrTup vs, r)) = some (r0, lent')) (a' : Act) (w' : World) (hR : RelM ⟨w, Own ⟨w, lentHeap tag 0 lent, m, tag, 1⟩, fa.np, m.base, m.ext, m.ban, m.gl, m.tk⟩ fa.ann.nt st a' w' m'),
   ∃ v, (results fn a'.tmps).run P w' = .ok v w' ∧ ∃ x, Ending.returned v = .returned x ∧ CallPost w w' tag lent lent' m r x := by
  intro hr a' w' hR
  cases hga : getAll L st fa.results with
  | none => simp [hga] at hr
  | some gs =>
  obtain ⟨xs, hxs, hrun⟩ := zg4 hL hR fa.results gs hga
  cases hfr : freezeAll fa.np fa.frz st gs with
  | none => simp [hga, hfr] at hr
  | some q =>
   obtain ⟨outs, ss⟩ := q
   cases hlo : lentOut st 0 lent with
   | none => simp [hga, hfr, hlo] at hr
   | some lo =>
    simp only [hga, hfr, hlo, qO3, qO2, qO1, qO4] at hr
    obtain ⟨rfl, rfl⟩ := hr
    obtain ⟨rs, g1, g2, g3⟩ := zep hR fa.frz _ _ outs ss hxs hfr
    obtain ⟨l1, l2, l3⟩ := zfc 0 lent lo hlo
    refine ⟨_, zfq hres hrun, _, rfl, ⟨hR.pres, ?_, l1, l2, fun k old hk => ?_⟩⟩
    ·refine ⟨rs, Less.res hless ?_, g2⟩
     match xs with
     | [] =>
      cases g1
      exact .tup .nil
     | [k] =>
      cases g1 with
      | cons hx hs => cases hs; simp only [oneOrTup, List.append_nil]; exact .one hx
     | k1 :: k2 :: ks =>
      cases g1 with
      | cons hx hs =>
       cases hs with
       | cons hy ht => exact .tup (.cons hx (.cons hy ht))
    ·obtain ⟨new, k1, k2, k3, k4⟩ := l3 k old hk
     rw [Nat.zero_add] at k2
     obtain ⟨blk, b1, b2, rfl⟩ := zap k2
     have hbase : m'.base k = m.base k := ((hR.blk k blk b1).2.1 b2).1
     rcases hR.blkAt b1 with ⟨q1, q2⟩ | ⟨cs, e, fr, r1, r2, r3, r4, r5, us, r6, r7⟩
     ·exact ⟨_, [], k1, k3, by rw [q1]; exact .nil, by simp⟩
     ·refine ⟨_, us, k1, k3, r6.pvs k4, fun j v hj => ?_⟩
      rw [← hbase, zax r1]
      exact r7 j v hj
 cases e with
 | normal =>
  cases ex <;> simp only [Ex.is] at he
  exact zdp hR (fin hpost)
 | ret =>
  cases ex <;> simp only [Ex.is] at he
  exact zdp hR (fin hpost)
 | exit i => cases hends
def cloneBody (q0 q1 q2 q3 : String) (t : Nat) : Code :=
 (Code.region 0 #[{ dst := some 2, op := Op.assign (Operand.const (Value.slice none 0 0)), type := t, pos := q0, after := #[], guard := none }] false).seq
  (((Code.region 1 #[{ dst := some 3, op := Op.move (Operand.tmp 0), type := t, pos := q1, after := #[], guard := none },
    {dst := some 4, op := Op.binOp BinOp.eql t (Operand.tmp 3) (Operand.const (Value.slice none 0 0)) t, type := 4, pos := q1, after := #[{ on := 0, ground := Ground.data }], guard := none }] false).seq
   (Code.cond (Operand.tmp 4)
    ((Code.region 2 #[{ dst := some 2, op := Op.assign (Operand.const (Value.slice none 0 0)), type := t, pos := q2, after := #[], guard := none }] false).seq Code.ret)
    Code.skip)).seq
   ((Code.region 3 #[{ dst := some 5, op := Op.buildSlice t 0 #[], type := t, pos := q3, after := #[], guard := none },
    {dst := some 6, op := Op.move (Operand.tmp 0), type := t, pos := q3, after := #[], guard := none },
    {dst := some 7, op := Op.call { callee := Callee.builtin Builtin.append, args := #[Operand.tmp 5, Operand.tmp 6], argTypes := #[t, t] }, type := t, pos := q3, after := #[{ on := 0, ground := Ground.data }, { on := 1, ground := Ground.data }], guard := none },
    {dst := some 2, op := Op.assign (Operand.tmp 7), type := t, pos := q3, after := #[{ on := 2, ground := Ground.data }, { on := 2, ground := Ground.chain }, { on := 0, ground := Ground.phase }, { on := 1, ground := Ground.phase }, { on := 2, ground := Ground.phase }], guard := none }] false).seq
    Code.ret))
def cloneAnn : Ann := { nt := 8, cross := [0, 2], heads := [], own := [], reads := [], stores := [], ro := [], hp := [] }
def cloneA (q0 q1 q2 q3 : String) (t : Nat) : AFn := { body := cloneBody q0 q1 q2 q3 t, np := 1, results := [.tmp 2], ann := cloneAnn, frz := [] }
def cloneLaw (z bt : Nat) (_ : Nat) (args : List AV) (lent : List (Option (List AV))) : Option (AV × List (Option (List AV))) :=
 match args, lent with
 | [.isl z' n cells], [none] => if z' = z ∧ cells.length = n * z ∧ n * bt ≤ 140737488355328 ∧ cells.all AV.plain = true then some (.fsl z n cells, [none]) else none
 | [.nsl], [none] => some (.fsl z 0 [], [none])
 | _, _ => none
theorem nilOp_goes {c : Cx} {nt : Nat} {st : St} {a : Act} {w : World} {m : Mp} {o : Oper} {t e : Nat} (hu : P.underlying t = some (.slice e)) {x : Operand} (ho : o.op = .binOp .eql t x (.const (.slice none 0 0)) t)
  (h : RelM c nt st a w m) {ad : Option Addr} {n cp : Nat} (hx : a.eval x = .slice ad n cp) : Goes P c nt a o w (.bool ad.isNone) st := by
 refine za7 (y := .bool ad.isNone) ?_ h (.bool _)
 have g1 : (do eqGuard .eql t x (.const (.slice none 0 0)) (a.eval x) (a.eval (.const (.slice none 0 0))); binOp .eql t (a.eval x) (a.eval (.const (.slice none 0 0))) : Sem Value).run P w = .ok (.bool ad.isNone) w := by
  rw [hx]
  show Sem.run P (do eqGuard .eql t x (.const (.slice none 0 0)) (.slice ad n cp) (.slice none 0 0); binOp .eql t (.slice ad n cp) (.slice none 0 0)) w = _
  simp only [eqGuard, binOp]
  simp [run_equal_slice_nil w t e ad n cp hu]
 simp only [execOp, ho]
 rw [Sem.run_bind, g1]
 rfl
theorem zgv (q0 q1 q2 q3 : String) {f t : Nat} {fn : Func} (hfn : P.funcs[f]? = some fn) (hb : fn.body = some (cloneBody q0 q1 q2 q3 t)) (hn : fn.ntmps = 8) (hr : fn.results = #[.tmp 2]) (hp : fn.name ≠ "runtime.NumGoroutine") : FnOK P L f (cloneA q0 q1 q2 q3 t) := by
 refine ⟨rfl, ⟨fn, hfn, hb, hn, hr⟩, fun args w => ?_, (by decide : 1 ≤ 8), (by decide : 8 ≤ 500000), fun g h => (by cases h)⟩
 simp [callFunc, hfn, hp, hb, mark]
theorem zh0 {q0 q1 q2 q3 : String} (hm : P.follows .mixedOrders = true) (hL : LOK P L) {f t e z bt : Nat} {it ie : TI} (hf : FnOK P L f (cloneA q0 q1 q2 q3 t)) (hi : L t = some it) (hd : it.desc = .slice e) (he : L e = some ie)
  (hz : ie.size = z) (hb : ie.bytes = bt) (hz0 : 0 < z) (hb0 : 0 < bt) (hzz : ie.zero = [] ∨ ie.zero.length = z) (hzl : ie.zero.length = ie.size) :
  ∀ tag args lent r lent', cloneLaw z bt tag args lent = some (r, lent') → CallOK P f tag args lent r lent' := by
 intro tag args lent r lent' h
 have hΓ : OracleOK P (fun _ _ _ _ => none) := ⟨fun f tag args lent r lent' h => (by cases h), fun f tag args lent r lent' h => (by cases h), fun f tag y cs args lent r lent' h => (by cases h), fun y tag args lent r lent' h => (by cases h)⟩
 have hu : P.underlying t = some (.slice e) := sliceBy (hL t it hi) hd
 subst hz
 subst hb
 have key : ∀ (n : Nat) (cells : List AV) (arg : AV) (hl : lent = [none]), (arg = .isl ie.size n cells ∨ (arg = .nsl ∧ n = 0 ∧ cells = [])) → args = [arg] → cells.length = n * ie.size → n * ie.bytes ≤ 140737488355328 → cells.all AV.plain = true → r = .fsl ie.size n cells → lent' = [none] →
   CallOK P f tag args lent r lent' := by
  rintro n cells arg rfl harg rfl hlen hbyt hpl rfl rfl
  refine fn_ok2 hL hf rfl rfl fun w m a hgp h0 => ?_
  have d0 : den loopω L cloneAnn (fun _ _ _ _ => none) (Code.region 0 #[{ dst := some 2, op := Op.assign (Operand.const (Value.slice none 0 0)), type := t, pos := q0, after := #[], guard := none }] false) { env := argEnv 0 [arg], heap := lentHeap tag 0 [none], next := 1, tag } =
    some (.normal, { env := [(0, arg), (2, .nsl)], heap := [], next := 1, tag }) := rfl
  refine wpIn_seq (Go.wpIn_mono (den_wp (show 8 ≤ 500000 by decide) hm hL hΓ ⟨hgp, fun g h => (by cases h)⟩ none 0 _ (.inl rfl) rfl _ _ _ _ _ _ h0 d0) ?_)
  rintro ex a1 w1 ⟨hex, m1, h1⟩
  cases ex <;> simp only [Ex.is] at hex
  refine wpIn_seq (wpIn_seq (wpIn_region_list ?_))
  simp only []
  have s1 : denOp L cloneAnn (fun _ _ _ _ => none) { env := [(0, arg), (2, .nsl)], heap := [], next := 1, tag } 3 t (.move (.tmp 0)) = some (arg, { env := [(0, arg), (2, .nsl)], heap := [], next := 1, tag }) := rfl
  unfold wpListIn
  rw [if_pos (by rfl)]
  refine (zet (o := { dst := some 3, op := Op.move (Operand.tmp 0), type := t, pos := q1, after := #[], guard := none }) hL hΓ ⟨hgp, fun g h => (by cases h)⟩ h1 rfl s1 (show 3 < 500000 by decide) none 0 _ _ fun y w2 m2 hR hV => ?_)
  have h2 := hR.put (d := some 3) (show 3 < 8 by decide) hV
  unfold wpListIn
  rw [if_pos (by rfl)]
  have hv := za6 h2 (.tmp 3)
  have hv2 : VR (At (putD { env := [(0, arg), (2, .nsl)], heap := [], next := 1, tag } (some 3) arg) w2 m2) arg _ := hv
  obtain ⟨ad, n', cp, hx, hnil⟩ : ∃ ad n' cp, (a1.put (some 3) y).eval (.tmp 3) = .slice ad n' cp ∧ (ad = none → n = 0 ∧ cells = []) := by
   rcases harg with rfl | ⟨rfl, rfl, rfl⟩
   ·rcases VR.isl_inv (.inl hv2) with ⟨ad, cap, us, hh, _⟩ | ⟨ad, cap, hh, rfl, rfl⟩
    ·exact ⟨some ad, _, _, hh, fun q => by cases q⟩
    ·exact ⟨ad, _, _, hh, fun _ => ⟨rfl, rfl⟩⟩
   ·generalize (a1.put (some 3) y).eval (.tmp 3) = vx at hv2
    cases hv2 with
    | nsl => exact ⟨_, _, _, rfl, fun _ => ⟨rfl, rfl⟩⟩
  refine ((nilOp_goes (t := t) hu rfl h2 hx).goesIn (by intros; simp) none 0 _ _ fun y3 w3 m3 hR3 hV3 => ?_)
  have h3 := hR3.put (d := some 4) (show 4 < 8 by decide) hV3
  unfold wpListIn
  refine wpIn_cond (za6 h3 (.tmp 4)).bool_inv ?_
  cases ad with
  | none =>
   obtain ⟨rfl, rfl⟩ := hnil rfl
   simp only [Option.isNone_none, if_true]
   have dA : den loopω L cloneAnn (fun _ _ _ _ => none) ((Code.region 2 #[{ dst := some 2, op := Op.assign (Operand.const (Value.slice none 0 0)), type := t, pos := q2, after := #[], guard := none }] false).seq Code.ret)
     {env := [(0, arg), (2, .nsl), (3, arg), (4, .bool true)], heap := [], next := 1, tag } = some (.ret, { env := [(0, arg), (2, .nsl), (3, arg), (4, .bool true)], heap := [], next := 1, tag }) := rfl
   refine Go.wpIn_mono (den_wp (show 8 ≤ 500000 by decide) hm hL hΓ ⟨hgp, fun g h => (by cases h)⟩ none 0 _ (.inl rfl) rfl _ _ _ _ _ _ h3 dA) ?_
   rintro ex a4 w4 ⟨hex4, m4, h4⟩
   cases ex <;> simp only [Ex.is] at hex4
   exact ⟨.ret, _, .nsl, ⟨trivial, m4, h4⟩, rfl, rfl, .inr ⟨rfl, _, rfl⟩⟩
  | some ad =>
   simp only [Option.isNone_some, Bool.false_eq_true, if_false]
   refine wpIn_skip ?_
   have hsl : ∀ st, slCells st ie.size arg = some (n, cells) := fun st => by
    rcases harg with rfl | ⟨rfl, rfl, rfl⟩
    ·simp [slCells, hlen]
    ·rfl
   have hse : slElem L t = some ie := by simp [slElem, hi, hd, he]
   have dB : den loopω L cloneAnn (fun _ _ _ _ => none) ((Code.region 3 #[{ dst := some 5, op := Op.buildSlice t 0 #[], type := t, pos := q3, after := #[], guard := none },
    {dst := some 6, op := Op.move (Operand.tmp 0), type := t, pos := q3, after := #[], guard := none },
    {dst := some 7, op := Op.call { callee := Callee.builtin Builtin.append, args := #[Operand.tmp 5, Operand.tmp 6], argTypes := #[t, t] }, type := t, pos := q3, after := #[{ on := 0, ground := Ground.data }, { on := 1, ground := Ground.data }], guard := none },
    {dst := some 2, op := Op.assign (Operand.tmp 7), type := t, pos := q3, after := #[{ on := 2, ground := Ground.data }, { on := 2, ground := Ground.chain }, { on := 0, ground := Ground.phase }, { on := 1, ground := Ground.phase }, { on := 2, ground := Ground.phase }], guard := none }] false).seq
    Code.ret) { env := [(0, arg), (2, .nsl), (3, arg), (4, .bool false)], heap := [], next := 1, tag } =
     some (.ret, { env := [(0, arg), (2, .msl 5 (tag, 2) ie.size 0 n), (3, arg), (4, .bool false)], heap := [(5, ⟨(tag, 2), cells⟩)], next := 3, tag }) := by
    simp [den, denOps, denOper, runs, denOp, hse, fillA, parts, newBlk, aBuiltin, aAppend, operand, aget, aput, putD, cloneAnn, hsl, blkOf, show isMapKey 5 = false from rfl, hz0, hb0, hbyt, hzl, tidy, adel, repl, isAppend, okRead]
   refine Go.wpIn_mono (den_wp (show 8 ≤ 500000 by decide) hm hL hΓ ⟨hgp, fun g h => (by cases h)⟩ none 0 _ (.inl rfl) rfl _ _ _ _ _ _ h3 dB) ?_
   rintro ex a4 w4 ⟨hex4, m4, h4⟩
   cases ex <;> simp only [Ex.is] at hex4
   refine ⟨.ret, _, .fsl ie.size n cells, ⟨trivial, m4, h4⟩, rfl, ?_, .inl rfl⟩
   simp [-List.all_eq_true, cloneA, getAll, getRes, aget, freezeAll, freezeOne, freezeSl, blkOf, show isMapKey 5 = false from rfl, hz0, hlen, hpl, lentOut, oneOrTup]
 unfold cloneLaw at h
 split at h
 ·rename_i z' n cells
  split at h
  ·rename_i hc
   obtain ⟨rfl, h1, h2, h3⟩ := hc
   simp only [qO1, qO4] at h
   obtain ⟨rfl, rfl⟩ := h
   exact key n cells _ rfl (.inl rfl) rfl h1 h2 h3 rfl rfl
  ·cases h
 ·simp only [qO1, qO4] at h
  obtain ⟨rfl, rfl⟩ := h
  exact key 0 [] _ rfl (.inr ⟨rfl, rfl, rfl⟩) rfl (by simp) (by omega) rfl rfl rfl
 ·cases h
end
end Go.Sim
end
section
namespace Go.Sim
open Go
inductive Fr where
 | seq (b : Code)
 | blk (id : Nat)
 | loop (a : Code)
abbrev Ans := Option (AV × List (Option (List AV)))
structure Fx where
 L : Nat → Option TI
 K : Ann
 Γ : Oracle
 np : Nat
 frz : List Nat
 results : List ResultVar
 lent : List (Option (List AV))
def fin (F : Fx) : Ex → St → Ans
 | .exit _, _ => none
 | _, st => (getAll F.L st F.results).bind fun gs => (freezeAll F.np F.frz st gs).bind fun vs => (lentOut st 0 F.lent).bind fun r => some (oneOrTup vs.1, r)
noncomputable def loopOf (F : Fx) (a : Code) (st : St) : Option (Ex × St) :=
 loopω (fun s => den loopω F.L F.K F.Γ a (trim (F.K.heads.find? (·.1 == firstRegion a)) s)) st
noncomputable def ret (F : Fx) : List Fr → Ex → St → Ans
 | [], e, st => fin F e st
 | .seq b :: ks, .normal, st => (den loopω F.L F.K F.Γ b st).bind fun r => ret F ks r.1 r.2
 | .seq _ :: ks, e, st => ret F ks e st
 | .blk id :: ks, .exit j, st => if j = id then ret F ks .normal st else ret F ks (.exit j) st
 | .blk _ :: ks, e, st => ret F ks e st
 | .loop a :: ks, .normal, st => (loopOf F a st).bind fun r => ret F ks r.1 r.2
 | .loop _ :: ks, e, st => ret F ks e st
noncomputable def go (F : Fx) (c : Code) (ks : List Fr) (st : St) : Ans := (den loopω F.L F.K F.Γ c st).bind fun r => ret F ks r.1 r.2
section
variable {F : Fx} {ks : List Fr} {st : St}
theorem ret_nil {e : Ex} : ret F [] e st = fin F e st := by cases e <;> rfl
end
theorem call_go {L : Nat → Option TI} {T : Nat → Option Entry} {f : Nat} {a : AFn} (h : T f = some (.code a)) {tag : Nat} {args : List AV} {lent : List (Option (List AV))} (h1 : args.length = a.np) (h2 : lent.length = a.np) :
  callω L T f tag args lent = go ⟨L, a.ann, callω L T, a.np, a.frz, a.results, lent⟩ a.body [] { env := argEnv 0 args, heap := lentHeap tag 0 lent, next := 1, tag } := by
 rw [callω_code h, runFn, if_pos ⟨h1, h2⟩]
 simp only [go]
 cases den loopω L a.ann (callω L T) a.body { env := argEnv 0 args, heap := lentHeap tag 0 lent, next := 1, tag } with
 | none => rfl
 | some p =>
  obtain ⟨e, s⟩ := p
  cases e <;> rfl
def bAnd (k : IntKind) (x y : Int) : Int := k.wrap (BitVec.ofInt k.bits x &&& BitVec.ofInt k.bits y).toNat
def bOr (k : IntKind) (x y : Int) : Int := k.wrap (BitVec.ofInt k.bits x ||| BitVec.ofInt k.bits y).toNat
def bXor (k : IntKind) (x y : Int) : Int := k.wrap (BitVec.ofInt k.bits x ^^^ BitVec.ofInt k.bits y).toNat
def bAndNot (k : IntKind) (x y : Int) : Int := k.wrap (BitVec.ofInt k.bits x &&& ~~~ BitVec.ofInt k.bits y).toNat
def bShl (k : IntKind) (x y : Int) : Int := k.wrap (x * 2 ^ min y.toNat k.bits)
def bShr (k : IntKind) (x y : Int) : Int := x.fdiv (2 ^ min y.toNat k.bits)
section
variable {k : IntKind} {x y : Int}
end
def tabB (s : ByteArray) (g : Nat → Nat) : Nat → Bool
 | 0 => true
 | n + 1 => (match s[n]? with | some x => x.toNat == g n | none => false) && tabB s g n
theorem tabB_get {s : ByteArray} {g : Nat → Nat} : ∀ {n i : Nat}, tabB s g n = true → i < n → ∃ x, s[i]? = some x ∧ x.toNat = g i
 | n + 1, i, h, hi => by
  simp only [tabB, qO5] at h
  rcases Nat.lt_or_ge i n with h1 | h1
  ·exact tabB_get h.2 h1
  ·have : i = n := by omega
   subst this
   cases hs : s[i]? with
   | none => rw [hs] at h; cases h.1
   | some x => rw [hs] at h; exact ⟨x, rfl, by simpa using h.1⟩
def allB (p : Nat → Bool) : Nat → Bool
 | 0 => true
 | n + 1 => p n && allB p n
theorem zmc {p : Nat → Bool} : ∀ {n i : Nat}, allB p n = true → i < n → p i = true
 | n + 1, i, h, hi => by
  simp only [allB, qO5] at h
  rcases Nat.lt_or_ge i n with h1 | h1
  ·exact zmc h.2 h1
  ·have : i = n := by omega
   subst this; exact h.1
theorem u8_wf {x : Int} (h : (Lit.int .u8 x).wf = true) : ∃ n : Nat, x = n ∧ n < 256 := by
 simp [Lit.wf, IntKind.min, IntKind.max, IntKind.signed, IntKind.bits] at h
 exact ⟨x.toNat, by omega, by omega⟩
theorem zio (x : Int) : IntKind.u8.wrap x = x % 256 := by
 simp [IntKind.wrap, IntKind.signed, IntKind.bits, IntKind.min, IntKind.max]
theorem zaj (x : Int) : 0 ≤ IntKind.u8.wrap x ∧ IntKind.u8.wrap x < 256 := by rw [zio]; omega
theorem zcu (x y : Int) : 0 ≤ bAnd .u8 x y ∧ bAnd .u8 x y < 256 := zaj _
theorem bOr_u8 (x y : Int) : 0 ≤ bOr .u8 x y ∧ bOr .u8 x y < 256 := zaj _
theorem zcv (x y : Int) : 0 ≤ bXor .u8 x y ∧ bXor .u8 x y < 256 := zaj _
theorem zb3 (x y : Int) : 0 ≤ bAndNot .u8 x y ∧ bAndNot .u8 x y < 256 := zaj _
theorem zd0 (x y : Int) : 0 ≤ bShl .u8 x y ∧ bShl .u8 x y < 256 := zaj _
theorem zi6 {x : Int} (h : -9223372036854775808 ≤ x) (h' : x ≤ 9223372036854775807) : IntKind.i64.wrap x = x := by
 simp only [IntKind.wrap, IntKind.signed, IntKind.bits, IntKind.min, IntKind.max]
 simp
 omega
section
variable {L : Nat → Option TI} {n t : Nat} {ts : List Nat} {cs : List AV}
theorem zhc (h : ShpAll L n [] cs) : cs = [] := h
theorem zf5 {k : IntKind} {sz bt : Nat} {z : List AV} (hl : L t = some ⟨.int k, sz, bt, z⟩) (h : ShpAll L (n + 1) (t :: ts) cs) : ∃ x r, cs = .int k x :: r ∧ (Lit.int k x).wf = true ∧ ShpAll L (n + 1) ts r := by
 obtain ⟨v, r, rfl, hv, hr⟩ := h
 simp only [ShpV, hl, TI.isAgg, Bool.false_eq_true, if_false, Shp] at hv
 obtain ⟨x, hx, hw⟩ := hv
 simp only [List.cons.injEq, and_true] at hx
 subst hx
 exact ⟨x, r, rfl, hw, hr⟩
theorem zde {e sz bt : Nat} {z : List AV} {ie : TI} (hl : L t = some ⟨.slice e, sz, bt, z⟩) (he : L e = some ie) (h : ShpAll L (n + 1) (t :: ts) cs) :
  ∃ (parts : List (List AV)) (r : List AV), cs = .isl ie.size parts.length parts.flatten :: r ∧ parts.length ≤ maxLen ∧ (∀ p ∈ parts, Shp L n e p) ∧ ShpAll L (n + 1) ts r := by
 obtain ⟨v, r, rfl, hv, hr⟩ := h
 simp only [ShpV, hl, he, TI.isAgg, Bool.false_eq_true, if_false, Shp] at hv
 obtain ⟨x, hx, hw⟩ := hv
 simp only [List.cons.injEq, and_true] at hx
 subst hx
 exact ⟨x, r, rfl, hw.1, hw.2, hr⟩
theorem zd2 {e : Nat} {k : IntKind} {sz bt : Nat} {z : List AV} (hl : L e = some ⟨.int k, sz, bt, z⟩) : ∀ (parts : List (List AV)), (∀ p ∈ parts, Shp L (n + 1) e p) →
  ∃ xs : List Int, parts.flatten = xs.map (.int k) ∧ xs.length = parts.length ∧ ∀ x ∈ xs, (Lit.int k x).wf = true
 | [], _ => ⟨[], rfl, rfl, by simp⟩
 | p :: ps, h => by
  obtain ⟨xs, h1, h2, h3⟩ := zd2 hl ps fun q hq => h q (by simp [hq])
  have hp := h p (by simp)
  simp only [Shp, hl] at hp
  obtain ⟨x, rfl, hw⟩ := hp
  exact ⟨x :: xs, by simp [h1], by simp [h2], by simpa using ⟨hw, h3⟩⟩
theorem zfn {e : Nat} {sz bt : Nat} {z : List AV} (hl : L e = some ⟨.bool, sz, bt, z⟩) : ∀ (parts : List (List AV)), (∀ p ∈ parts, Shp L (n + 1) e p) →
  ∃ xs : List Bool, parts.flatten = xs.map .bool ∧ xs.length = parts.length
 | [], _ => ⟨[], rfl, rfl⟩
 | p :: ps, h => by
  obtain ⟨xs, h1, h2⟩ := zfn hl ps fun q hq => h q (by simp [hq])
  have hp := h p (by simp)
  simp only [Shp, hl] at hp
  obtain ⟨x, rfl⟩ := hp
  exact ⟨x :: xs, by simp [h1], by simp [h2]⟩
end
theorem wrap_u64 {x : Int} (h : 0 ≤ x) (h' : x ≤ 18446744073709551615) : IntKind.u64.wrap x = x := by
 simp only [IntKind.wrap, IntKind.signed, IntKind.bits, IntKind.min, IntKind.max]
 simp
 omega
section
variable {L : Nat → Option TI} {t : Nat} {op : BinOp} {c : Bool} {y : AV}
end
end Go.Sim
end
section
namespace Go.Sim
open Go
section
variable {F : Fx} {ks : List Fr} {a : Code}
end
end Go.Sim
end
section
namespace Go.Sim
open Go
theorem zfy {n : Nat} {a : Nat} (ha : a < 2 ^ n) : (BitVec.ofInt n (a : Int)).toNat = a := by
 rw [BitVec.toNat_ofInt]
 have h : ((a : Int) % ((2 ^ n : Nat) : Int)) = ((a % 2 ^ n : Nat) : Int) := by exact (Int.natCast_emod a (2 ^ n)).symm
 rw [h, Int.toNat_natCast, Nat.mod_eq_of_lt ha]
section
variable {a b : Nat}
theorem and64 (ha : a < 9223372036854775808) (hb : b < 9223372036854775808) : bAnd .i64 a b = ((a &&& b : Nat) : Int) := by
 show IntKind.i64.wrap (((BitVec.ofInt 64 (a : Int) &&& BitVec.ofInt 64 (b : Int)).toNat : Nat) : Int) = _
 rw [BitVec.toNat_and, zfy (by omega), zfy (by omega)]
 have : a &&& b ≤ a := Nat.and_le_left
 exact zi6 (by omega) (by omega)
theorem shr_nat (k : IntKind) {s : Nat} (hs : s ≤ k.bits) : bShr k a s = ((a >>> s : Nat) : Int) := by
 unfold bShr
 rw [Int.toNat_natCast, Nat.min_eq_left hs, Nat.shiftRight_eq_div_pow, Int.fdiv_eq_ediv_of_nonneg _ (by exact Int.le_of_lt (Int.pow_pos (by decide)))]
 simp
theorem zpn (n : Nat) : n &&& 1 = n % 2 := Nat.and_one_is_mod n
theorem shr_one (n : Nat) : n >>> 1 = n / 2 := by rw [Nat.shiftRight_eq_div_pow]
end
theorem w_i64 {x : Int} (h : -9223372036854775808 ≤ x) (h' : x ≤ 9223372036854775807) : IntKind.i64.wrap x = x := zi6 h h'
theorem w_u64 {x : Int} (h : 0 ≤ x) (h' : x ≤ 18446744073709551615) : IntKind.u64.wrap x = x := wrap_u64 h h'
theorem w_u8 {x : Int} (h : 0 ≤ x) (h' : x < 256) : IntKind.u8.wrap x = x := by rw [zio]; omega
theorem zah {k n : Nat} (hk : k < n) (hn : n < 9223372036854775808) : IntKind.i64.wrap ((k : Int) + 1) = ((k + 1 : Nat) : Int) := by
 rw [zi6 (by omega) (by omega)]; simp
theorem zcy (b : Bool) : AV.plain (.bool b) = true := rfl
theorem pl_int (k : IntKind) (n : Int) : AV.plain (.int k n) = true := rfl
theorem pl_str (s : ByteArray) : AV.plain (.str s) = true := rfl
theorem zcz : AV.plain .nilp = true := rfl
theorem pl_nsl : AV.plain .nsl = true := rfl
theorem zd1 : AV.plain .nilI = true := rfl
theorem zcx : AV.plain .nilF = true := rfl
theorem zar (k : IntKind) (xs : List Int) : (xs.map (AV.int k)).all AV.plain = true := by induction xs with | nil => rfl | cons x xs ih => simp [AV.plain]
theorem zao (xs : List Bool) : (xs.map AV.bool).all AV.plain = true := by induction xs with | nil => rfl | cons x xs ih => simp [AV.plain]
theorem zaq (xs ys : List AV) : (xs ++ ys).all AV.plain = (xs.all AV.plain && ys.all AV.plain) := List.all_append
theorem zag {α β : Type} (xs : List α) (f : α → β) : (xs.map f).take xs.length = xs.map f := by rw [List.take_of_length_le (by simp)]
theorem ofInt_mod (x : Int) : (BitVec.ofInt 64 x).toNat = (x % 18446744073709551616).toNat := by
 rw [BitVec.toNat_ofInt]; rfl
theorem and_mask (x : Int) {m : Nat} (hm : m ≤ 62) : bAnd .i64 x ((2 ^ m - 1 : Nat) : Int) = x % ((2 ^ m : Nat) : Int) := by
 have hp : 2 ^ m ≤ 2 ^ 62 := Nat.pow_le_pow_right (by omega) hm
 have hq : 0 < 2 ^ m := Nat.two_pow_pos m
 show IntKind.i64.wrap (((BitVec.ofInt 64 x &&& BitVec.ofInt 64 ((2 ^ m - 1 : Nat) : Int)).toNat : Nat) : Int) = _
 rw [BitVec.toNat_and, ofInt_mod, zfy (by omega), Nat.and_two_pow_sub_one_eq_mod]
 have hd : (18446744073709551616 : Int) = ((2 ^ m : Nat) : Int) * ((2 ^ (64 - m) : Nat) : Int) := by
  have : 2 ^ m * 2 ^ (64 - m) = 18446744073709551616 := by rw [← Nat.pow_add, show m + (64 - m) = 64 from by omega]
  rw [← Int.natCast_mul, this]; rfl
 have h0 : 0 ≤ x % 18446744073709551616 := Int.emod_nonneg _ (by omega)
 have e : (((x % 18446744073709551616).toNat % 2 ^ m : Nat) : Int) = x % ((2 ^ m : Nat) : Int) := by
  rw [Int.natCast_emod, Int.toNat_of_nonneg h0]
  exact Int.emod_emod_of_dvd x (hd ▸ Int.dvd_mul_right _ _)
 rw [e]
 have h1 : 0 ≤ x % ((2 ^ m : Nat) : Int) := Int.emod_nonneg _ (by omega)
 have h2 : x % ((2 ^ m : Nat) : Int) < ((2 ^ m : Nat) : Int) := Int.emod_lt_of_pos _ (by omega)
 exact zi6 (by omega) (by omega)
theorem and_63 (x : Int) : bAnd .i64 x 63 = x % 64 := and_mask x (m := 6) (by omega)
theorem int_bne (a b : Int) : (a != b) = !decide (a = b) := by by_cases h : a = b <;> simp [h]
end Go.Sim
end
section
namespace Go.Sim
open Go
theorem zd8 {α : Type} {k : Nat} {v : α} : ∀ {l : List (Nat × α)}, aget k l = some v → aput k v l = l
 | (j, u) :: l, h => by
  simp only [aget] at h
  simp only [aput]
  by_cases e : j = k
  ·rw [if_pos e] at h ⊢
   simp only [qO1] at h
   subst e h; rfl
  ·rw [if_neg e] at h ⊢
   rw [zd8 h]
section
variable {F : Fx} {ks : List Fr} {st : St} {ops l : List Oper} {d : Option Nat} {op : Op} {ty : Nat} {pos : String} {after : Array Edge} {want : Bool}
end
end Go.Sim
end
section
namespace Go.Sim
open Go
section
variable {α : Type} {f : α → List AV} {n : Nat}
def flat (f : α → List AV) (xs : List α) : List AV := (xs.map f).flatten
theorem zcp (x : α) (xs : List α) : flat f (x :: xs) = f x ++ flat f xs := by simp [flat]
theorem zhd (xs ys : List α) : flat f (xs ++ ys) = flat f xs ++ flat f ys := by simp [flat]
theorem zhk (hf : ∀ x, (f x).length = n) (xs : List α) : (flat f xs).length = xs.length * n := by
 induction xs with
 | nil => simp [flat]
 | cons x xs ih => rw [zcp, List.length_append, hf, ih, List.length_cons, Nat.succ_mul]; omega
theorem zdg (hf : ∀ x, (f x).length = n) : ∀ (xs : List α) (i : Nat), (flat f xs).drop (i * n) = flat f (xs.drop i)
 | xs, 0 => by simp
 | [], i+1 => by simp [flat]
 | x :: xs, i+1 => by
  rw [zcp, List.drop_succ_cons, ← zdg hf xs i, Nat.succ_mul, Nat.add_comm, ← List.drop_drop, List.drop_left' (hf x)]
theorem zge (hf : ∀ x, (f x).length = n) : ∀ (xs : List α) (i : Nat), (flat f xs).take (i * n) = flat f (xs.take i)
 | xs, 0 => by simp [flat]
 | [], i+1 => by simp [flat]
 | x :: xs, i+1 => by
  rw [zcp, List.take_succ_cons, zcp, ← zge hf xs i, Nat.succ_mul, Nat.add_comm, List.take_append, hf x]
  rw [List.take_of_length_le (by rw [hf x]; omega)]
  congr 2
  omega
theorem flt_rd (hf : ∀ x, (f x).length = n) {xs : List α} {i : Nat} (hi : i < xs.length) : ((flat f xs).drop (i * n)).take n = f xs[i] := by
 rw [zdg hf, List.drop_eq_getElem_cons hi, zcp, List.take_left' (hf _)]
theorem flt_get (hf : ∀ x, (f x).length = n) {xs : List α} {i k : Nat} (hi : i < xs.length) (hk : k < n) : (flat f xs)[i * n + k]? = (f xs[i])[k]? := by
 have : (flat f xs)[i * n + k]? = ((flat f xs).drop (i * n))[k]? := by rw [List.getElem?_drop]
 rw [this, zdg hf, List.drop_eq_getElem_cons hi, zcp, List.getElem?_append_left (by rw [hf]; exact hk)]
theorem flt_setk (hf : ∀ x, (f x).length = n) {xs : List α} {i k : Nat} {vs : List AV} {y : α} (hi : i < xs.length) (hk : k + vs.length ≤ n) (hy : setR (f xs[i]) k vs = f y) : setR (flat f xs) (i * n + k) vs = flat f (xs.set i y) := by
 rw [List.set_eq_take_append_cons_drop, if_pos hi, zhd, zcp, ← zge hf, ← zdg hf, ← hy]
 unfold setR
 have hl := hf xs[i]
 have hx : flat f xs = (flat f xs).take (i * n) ++ (f xs[i] ++ (flat f xs).drop ((i + 1) * n)) := by
  rw [zdg hf, ← zcp, ← List.drop_eq_getElem_cons hi, ← zdg hf, List.take_append_drop]
 have ht : ((flat f xs).take (i * n)).length = i * n := by
  rw [zge hf, zhk hf, List.length_take, Nat.min_eq_left (by omega)]
 generalize (flat f xs).take (i * n) = A at *
 generalize (flat f xs).drop ((i + 1) * n) = B at *
 rw [hx]
 simp only [List.append_assoc]
 rw [List.take_append, List.drop_append, ht]
 rw [List.take_of_length_le (by omega), List.drop_of_length_le (by omega)]
 rw [List.take_append_of_le_length (by omega), List.drop_append_of_le_length (by omega)]
 simp only [List.append_assoc, List.nil_append]
 rw [show i * n + k - i * n = k from by omega, show i * n + k + vs.length - i * n = k + vs.length from by omega]
theorem zp7 (hf : ∀ x, (f x).length = n) {xs : List α} {i : Nat} {y : α} (hi : i < xs.length) : setR (flat f xs) (i * n) (f y) = flat f (xs.set i y) := by
 have := flt_setk hf (vs := f y) (y := y) (k := 0) hi (by rw [hf]; omega) (by unfold setR; rw [hf]; simp [hf])
 simpa using this
theorem zjn (hf : ∀ x, (f x).all AV.plain = true) (xs : List α) : (flat f xs).all AV.plain = true := by
 induction xs with
 | nil => rfl
 | cons x xs ih => rw [zcp, List.all_append, hf, ih]; rfl
theorem flt_repl (n : Nat) (x : α) (c : List AV) (h : f x = c) : repl n c = flat f (List.replicate n x) := by
 unfold repl flat
 rw [List.map_replicate, h]
end
theorem setR_map {α : Type} (g : α → AV) {xs : List α} {k : Nat} {v : α} (h : k < xs.length) : setR (xs.map g) k [g v] = (xs.set k v).map g := by
 unfold setR
 rw [List.set_eq_take_append_cons_drop, if_pos h, List.map_append, List.map_cons, List.map_take, List.map_drop]
 simp
theorem zc2 {i : IntKind} {xs : List Int} {k : Nat} {v : Int} (h : k < xs.length) : setR (xs.map (AV.int i)) k [.int i v] = (xs.set k v).map (AV.int i) := setR_map (AV.int i) h
theorem zbg {xs : List Bool} {k : Nat} {v : Bool} (h : k < xs.length) : setR (xs.map AV.bool) k [.bool v] = (xs.set k v).map AV.bool := setR_map AV.bool h
theorem zbd (cs vs : List AV) : setR cs 0 vs = vs ++ cs.drop vs.length := by simp [setR]
theorem zau (c : AV) (cs vs : List AV) (k : Nat) : setR (c :: cs) (k + 1) vs = c :: setR cs k vs := by
 unfold setR
 rw [show k + 1 + vs.length = (k + vs.length) + 1 from by omega]
 simp
theorem zbn {cs vs : List AV} (h : vs.length = cs.length) : setR cs 0 vs = vs := by
 unfold setR; simp [h]
theorem zbm (n : Nat) (i : IntKind) (x : Int) : repl n [.int i x] = (List.replicate n x).map (AV.int i) := by simp [repl]
theorem zb6 (n : Nat) (x : Bool) : repl n [.bool x] = (List.replicate n x).map AV.bool := by simp [repl]
section
variable {L : Nat → Option TI} {n o t : Nat} {fs : List (Nat × Nat)} {cs : List AV} {sz bt : Nat} {z : List AV}
theorem shp_strct (hl : L t = some ⟨.strct fs, sz, bt, z⟩) (h : Shp L (n + 1) t cs) : zipShp (Shp L n) fs cs := by
 simpa only [Shp, hl] using h
end
theorem parts_flat {α : Type} {f : α → List AV} {P : α → Prop} {Q : List AV → Prop} (h : ∀ p, Q p → ∃ a, p = f a ∧ P a) : ∀ parts : List (List AV), (∀ p ∈ parts, Q p) → ∃ as : List α, parts.flatten = flat f as ∧ as.length = parts.length ∧ ∀ a ∈ as, P a
 | [], _ => ⟨[], rfl, rfl, by simp⟩
 | p :: ps, hp => by
  obtain ⟨as, h1, h2, h3⟩ := parts_flat h ps fun q hq => hp q (by simp [hq])
  obtain ⟨a, rfl, ha⟩ := h p (hp p (by simp))
  exact ⟨a :: as, by simp [zcp, h1], by simp [h2], by simpa using ⟨ha, h3⟩⟩
section
variable {L : Nat → Option TI} {n : Nat} {fs : List (Nat × Nat)} {cs : List AV} {ds : List (Option TD)}
def dsc (L : Nat → Option TI) (p : Nat × Nat) : Option TD := (L p.2).map TI.desc
theorem zipd_int {k : IntKind} (h : zipShp (Shp L (n + 1)) fs cs) (hs : fs.map (dsc L) = some (.int k) :: ds) : ∃ x gs r, cs = .int k x :: r ∧ (Lit.int k x).wf = true ∧ zipShp (Shp L (n + 1)) gs r ∧ gs.map (dsc L) = ds := by
 cases fs with
 | nil => cases hs
 | cons p gs =>
  obtain ⟨a, b, rfl, ha, hb⟩ := h
  simp only [List.map_cons, List.cons.injEq, dsc, Option.map_eq_some_iff] at hs
  obtain ⟨⟨i, hi, hd⟩, hr⟩ := hs
  simp only [Shp, hi, hd] at ha
  obtain ⟨x, rfl, hw⟩ := ha
  exact ⟨x, gs, b, rfl, hw, hb, hr⟩
theorem zipd_bool (h : zipShp (Shp L (n + 1)) fs cs) (hs : fs.map (dsc L) = some .bool :: ds) : ∃ x gs r, cs = .bool x :: r ∧ zipShp (Shp L (n + 1)) gs r ∧ gs.map (dsc L) = ds := by
 cases fs with
 | nil => cases hs
 | cons p gs =>
  obtain ⟨a, b, rfl, ha, hb⟩ := h
  simp only [List.map_cons, List.cons.injEq, dsc, Option.map_eq_some_iff] at hs
  obtain ⟨⟨i, hi, hd⟩, hr⟩ := hs
  simp only [Shp, hi, hd] at ha
  obtain ⟨x, rfl⟩ := ha
  exact ⟨x, gs, b, rfl, hb, hr⟩
theorem zipd_nil (h : zipShp (Shp L n) fs cs) (hs : fs.map (dsc L) = []) : cs = [] := by
 cases fs with
 | nil => exact h
 | cons p gs => cases hs
end
section
variable {α : Type}
def fillup (f : Nat → α) (d : α) (n k : Nat) : List α := (List.range n).map fun j => if j < k then f j else d
theorem zfj (f : Nat → α) (d : α) (n k : Nat) : (fillup f d n k).length = n := by simp [fillup]
theorem zpz (f : Nat → α) (d : α) (n : Nat) : fillup f d n 0 = List.replicate n d := by
 apply List.ext_getElem <;> simp [fillup]
theorem zpx (f : Nat → α) (d : α) (n : Nat) : fillup f d n n = (List.range n).map f := by
 apply List.ext_getElem
 ·simp [fillup]
 ·intro i h1 h2
  simp [fillup] at h1 ⊢
  intro h; omega
theorem fillup_set (f : Nat → α) (d : α) (n k : Nat) : (fillup f d n k).set k (f k) = fillup f d n (k + 1) := by
 apply List.ext_getElem
 ·simp [fillup]
 ·intro i h1 h2
  rw [List.getElem_set]
  by_cases e : k = i
  ·subst e; simp [fillup]
  ·simp only [e, if_false, fillup, List.getElem_map, List.getElem_range]
   by_cases h : i < k
   ·rw [if_pos h, if_pos (by omega)]
   ·rw [if_neg h, if_neg (by omega)]
theorem zpt {f : Nat → α} {d : α} {n k : Nat} {v : α} (h : v = f k) : (fillup f d n k).set k v = fillup f d n (k + 1) := by rw [h, fillup_set]
end
section
variable {F : Fx} {ks : List Fr} {st : St} {ops l : List Oper} {d : Option Nat} {op : Op} {ty : Nat} {pos : String} {after : Array Edge} {want : Bool}
end
end Go.Sim
end
section
namespace Go.Sim
open Go
def chk (c : Prop) [Decidable c] (a : Ans) : Ans := if c then a else none
def brX (x : Bool) (a b : Ans) : Ans := match x with | true => a | false => b
def getX (l : List AV) (o : Nat) (κ : AV → Ans) : Ans := match l[o]? with | some v => κ v | none => none
def strX (s : ByteArray) (o : Nat) (κ : AV → Ans) : Ans := match s[o]? with | some b => κ (.int .u8 b.toNat) | none => none
def setX (cells : List AV) (o : Nat) (vs : List AV) (κ : List AV → Ans) : Ans := κ (setR cells o vs)
def takeX (cells : List AV) (o n : Nat) (κ : List AV → Ans) : Ans := κ ((cells.drop o).take n)
def normX (cells : List AV) (κ : List AV → Ans) : Ans := κ cells
def resX (r : Option (AV × List (Option (List AV)))) (κ : AV → List (Option (List AV)) → Ans) : Ans := match r with | some (v, l) => κ v l | none => none
def optX {α : Type} (o : Option α) (κ : α → Ans) : Ans := match o with | some v => κ v | none => none
theorem zch {α : Type} (o : Option α) (κ : α → Ans) : optX o κ = o.bind κ := by cases o <;> rfl
def agetX {α : Type} (k : Nat) : List (Nat × α) → (α → Ans) → Ans → Ans
 | [], _, z => z
 | (j, v) :: l, κ, z => match Nat.beq j k with | true => κ v | false => agetX k l κ z
def aputX {α : Type} (k : Nat) (v : α) : List (Nat × α) → (List (Nat × α) → Ans) → Ans
 | [], κ => κ [(k, v)]
 | (j, u) :: l, κ => match Nat.beq j k with | true => κ ((k, v) :: l) | false => aputX k v l fun r => κ ((j, u) :: r)
def adelX {α : Type} (k : Nat) : List (Nat × α) → (List (Nat × α) → Ans) → Ans
 | [], κ => κ []
 | (j, u) :: l, κ => match Nat.beq j k with | true => adelX k l κ | false => adelX k l fun r => κ ((j, u) :: r)
theorem beq_tf (j k : Nat) : (Nat.beq j k = true ∧ j = k) ∨ (Nat.beq j k = false ∧ ¬ j = k) := by
 cases h : Nat.beq j k
 ·exact .inr ⟨rfl, Nat.ne_of_beq_eq_false h⟩
 ·exact .inl ⟨rfl, Nat.eq_of_beq_eq_true h⟩
theorem zc3 {α : Type} (k : Nat) (l : List (Nat × α)) (κ : α → Ans) (z : Ans) : agetX k l κ z = match aget k l with | some v => κ v | none => z := by
 induction l with
 | nil => rfl
 | cons p l ih =>
  obtain ⟨j, v⟩ := p
  rcases beq_tf j k with ⟨h, e⟩ | ⟨h, e⟩
  ·simp only [agetX, h, aget, if_pos e]
  ·simp only [agetX, h, aget, if_neg e, ih]
theorem zd4 {α : Type} (k : Nat) (v : α) (l : List (Nat × α)) (κ : List (Nat × α) → Ans) : aputX k v l κ = κ (aput k v l) := by
 induction l generalizing κ with
 | nil => rfl
 | cons p l ih =>
  obtain ⟨j, u⟩ := p
  rcases beq_tf j k with ⟨h, e⟩ | ⟨h, e⟩
  ·simp only [aputX, h, aput, if_pos e]
  ·simp only [aputX, h, aput, if_neg e, ih]
theorem adelX_eq {α : Type} (k : Nat) (l : List (Nat × α)) (κ : List (Nat × α) → Ans) : adelX k l κ = κ (adel k l) := by
 induction l generalizing κ with
 | nil => rfl
 | cons p l ih =>
  obtain ⟨j, u⟩ := p
  rcases beq_tf j k with ⟨h, e⟩ | ⟨h, e⟩
  ·simp only [adelX, h, adel, if_pos e, ih]
  ·simp only [adelX, h, adel, if_neg e, ih]
def cellsOf : List Value → (List AV → Ans) → Ans
 | [], κ => κ []
 | v :: l, κ => match ofScalar v with
  | .junk => none
  | x => cellsOf l fun r => κ (x :: r)
def opX (st : St) (x : Operand) (κ : AV → Ans) : Ans := match st, x with
 | ⟨env, _, _, _⟩, .tmp t => agetX t env κ (κ .junk)
 | _, .const v => match v with
  | .bool b => κ (.bool b)
  | .int k n => κ (.int k n)
  | .string s => κ (.str s)
  | v => κ (ofConst v)
 | _, .func f => κ (.fn f [])
 | _, .global g => κ (.gref g)
theorem opX_eq (st : St) (x : Operand) (κ : AV → Ans) : opX st x κ = κ (operand st x) := by
 cases st
 cases x <;> simp only [opX, operand, zc3]
 ·rename_i env _ _ _ t
  cases aget t env <;> rfl
 ·rename_i v
  cases v <;> rfl
def opsX (st : St) : List Operand → (List AV → Ans) → Ans
 | [], κ => κ []
 | x :: l, κ => opX st x fun v => opsX st l fun r => κ (v :: r)
theorem zpg (st : St) (l : List Operand) (κ : List AV → Ans) : opsX st l κ = κ (l.map (operand st)) := by
 induction l generalizing κ with
 | nil => rfl
 | cons x l ih => simp only [opsX, opX_eq, ih, List.map_cons]
def partsX (st : St) : List (Nat × Operand) → (List (Nat × AV) → Ans) → Ans
 | [], κ => κ []
 | (i, x) :: l, κ => opX st x fun v => partsX st l fun r => κ ((i, v) :: r)
theorem zng (st : St) (l : List (Nat × Operand)) (κ : List (Nat × AV) → Ans) : partsX st l κ = κ (l.map fun p => (p.1, operand st p.2)) := by
 induction l generalizing κ with
 | nil => rfl
 | cons x l ih => obtain ⟨i, x⟩ := x; simp only [partsX, opX_eq, ih, List.map_cons]
def putX (st : St) (d : Option Nat) (v : AV) (κ : St → Ans) : Ans := match st, d with
 | ⟨env, heap, next, tag⟩, some d => aputX d v env fun e => κ ⟨e, heap, next, tag⟩
 | st, none => κ st
theorem zq5 (st : St) (d : Option Nat) (v : AV) (κ : St → Ans) : putX st d v κ = κ (putD st d v) := by
 cases st; cases d <;> simp only [putX, putD, zd4]
def tidyX (cross : List Nat) : List Oper → St → (St → Ans) → Ans
 | [], st, κ => κ st
 | ⟨d, _, _, _, _, _⟩ :: l, st, κ => match d with
  | some d => match cross.contains d with
   | true => tidyX cross l st κ
   | false => match st with | ⟨env, heap, next, tag⟩ => adelX d env fun e => tidyX cross l ⟨e, heap, next, tag⟩ κ
  | none => tidyX cross l st κ
theorem tidyX_eq (cross : List Nat) (l : List Oper) (st : St) (κ : St → Ans) : tidyX cross l st κ = κ (tidy cross l st) := by
 induction l generalizing st with
 | nil => rfl
 | cons o l ih =>
  obtain ⟨d, _, _, _, _, _⟩ := o
  cases st
  cases d with
  | none => simp only [tidyX, tidy, ih]
  | some d =>
   simp only [tidyX, tidy]
   cases h : cross.contains d
   ·simp only [adelX_eq, ih, Bool.false_eq_true, if_false]
   ·simp only [ih, if_true]
def newX (st : St) (site : Nat) (cells : List AV) (κ : Nat × Nat → St → Ans) : Ans := match st with
 | ⟨env, heap, next, tag⟩ => aputX site ⟨(tag, next), cells⟩ heap fun h => κ (tag, next) ⟨env, h, next + 1, tag⟩
theorem ze3 (st : St) (site : Nat) (cells : List AV) (κ : Nat × Nat → St → Ans) : newX st site cells κ = κ (newBlk st site cells).1 (newBlk st site cells).2 := by
 cases st; simp only [newX, newBlk, zd4]
def blkX (st : St) (s : Nat) (g : Nat × Nat) (κ : List AV → Ans) : Ans := match st with
 | ⟨_, heap, _, _⟩ => match isMapKey s with
  | true => none
  | false => agetX s heap (fun b => match b with | ⟨σ, cells⟩ => chk (σ = g) (κ cells)) none
theorem zc6 (st : St) (s : Nat) (g : Nat × Nat) (κ : List AV → Ans) : blkX st s g κ = (blkOf st s g).bind κ := by
 obtain ⟨env, heap, next, tag⟩ := st
 simp only [blkX, blkOf, zc3, chk]
 cases isMapKey s with
 | true => rfl
 | false =>
 simp only [Bool.false_eq_true, if_false]
 cases aget s heap with
 | none => rfl
 | some b => simp only; split <;> rfl
def putCellsX (st : St) (site : Nat) (cells : List AV) (κ : St → Ans) : Ans := match st with
 | ⟨env, heap, next, tag⟩ => agetX site heap (fun b => match b with | ⟨σ, _⟩ => aputX site ⟨σ, cells⟩ heap fun h => κ ⟨env, h, next, tag⟩) (κ ⟨env, heap, next, tag⟩)
theorem zce (st : St) (site : Nat) (cells : List AV) (κ : St → Ans) : putCellsX st site cells κ = κ (putCells st site cells) := by
 cases st
 simp only [putCellsX, putCells, zc3, zd4]
 split
 ·rename_i h; rw [h]
 ·rename_i h; rw [h]
def cellsX (v : AV) (κ : List AV → Ans) : Ans := match v with
 | .agg cs => κ cs
 | .fsl z n cs => κ [.isl z n cs]
 | v => κ [v]
theorem zji (v : AV) (κ : List AV → Ans) : cellsX v κ = κ v.cells := by cases v <;> rfl
def rdX (i : TI) (cells : List AV) (o : Nat) (κ : AV → Ans) : Ans := match i.isAgg with
 | true => chk (o + i.size ≤ cells.length) (takeX cells o i.size fun c => κ (.agg c))
 | false => getX cells o κ
theorem rdX_eq (i : TI) (cells : List AV) (o : Nat) (κ : AV → Ans) : rdX i cells o κ = (rdCells i cells o).bind κ := by
 simp only [rdX, rdCells, chk, takeX, getX]
 cases i.isAgg
 ·simp only [Bool.false_eq_true, if_false]; cases cells[o]? <;> rfl
 ·simp only [if_true]; split <;> rfl
def ldX (i : TI) (st : St) (p : AV) (κ : AV → Ans) : Ans := match p with
 | .ref s g o => blkX st s g fun cells => rdX i cells o κ
 | .ipt cells => rdX i cells 0 κ
 | _ => none
def gldX (rd : List (Nat × List Nat)) (i : TI) (st : St) (p : AV) (κ : AV → Ans) : Ans := match p with
 | .gref g => match (aget (1000000000 + g) rd).isSome && i.isErr with
  | true => κ (.err g)
  | false => none
 | p => ldX i st p κ
theorem ldX_eq (i : TI) (st : St) (p : AV) (κ : AV → Ans) : ldX i st p κ = (aLoad i st p).bind κ := by
 cases p <;> simp only [ldX, aLoad, zc6, rdX_eq] <;> try rfl
 rename_i s g o
 cases blkOf st s g <;> rfl
theorem gldX_eq (rd : List (Nat × List Nat)) (i : TI) (st : St) (p : AV) (κ : AV → Ans) : gldX rd i st p κ = (gLoad rd i st p).bind κ := by
 cases p
 case gref g =>
  simp only [gldX, gLoad]
  cases (aget (1000000000 + g) rd).isSome && i.isErr <;> rfl
 all_goals (simp only [gldX, gLoad]; exact ldX_eq i st _ κ)
def stX (i : TI) (st : St) (addr v : AV) (κ : St → Ans) : Ans := match addr with
 | .ref s g o => blkX st s g fun cells => match v.solid with
  | true => cellsX v fun vs => chk (vs.length = i.size) (chk (o + i.size ≤ cells.length) (setX cells o vs fun c => putCellsX st s c κ))
  | false => none
 | _ => none
theorem stX_eq (i : TI) (st : St) (addr v : AV) (κ : St → Ans) : stX i st addr v κ = (aStore i st addr v).bind κ := by
 cases addr <;> simp only [stX, aStore] <;> try rfl
 rename_i s g o
 rw [zc6]
 cases blkOf st s g with
 | none => rfl
 | some cells =>
  simp only [qO2]
  cases hs : v.solid
  ·simp
  ·simp only [zji, chk, setX, zce]
   by_cases h1 : v.cells.length = i.size <;> by_cases h2 : o + i.size ≤ cells.length <;> simp [h1, h2]
def fillX (place : Nat → Option (Nat × Nat)) (cells : List AV) : List (Nat × AV) → (List AV → Ans) → Ans
 | [], κ => κ cells
 | (i, v) :: rest, κ => match place i with
  | none => none
  | some (off, size) => match v.solid with
   | true => cellsX v fun vs => chk (vs.length = size) (chk (off + size ≤ cells.length) (setX cells off vs fun c => fillX place c rest κ))
   | false => none
theorem fillX_eq (place : Nat → Option (Nat × Nat)) (cells : List AV) (ps : List (Nat × AV)) (κ : List AV → Ans) : fillX place cells ps κ = (fillA place cells ps).bind κ := by
 induction ps generalizing cells with
 | nil => rfl
 | cons p ps ih =>
  obtain ⟨i, v⟩ := p
  simp only [fillX, fillA]
  cases place i with
  | none => rfl
  | some q =>
   obtain ⟨off, size⟩ := q
   simp only
   cases hs : v.solid
   ·simp
   ·simp only [zji, chk, setX, ih]
    by_cases h1 : v.cells.length = size <;> by_cases h2 : off + size ≤ cells.length <;> simp [h1, h2]
def intX (op : BinOp) (k : IntKind) (x y : Int) (κ : AV → Ans) : Ans := match op with
 | .add => κ (.int k (k.wrap (x + y)))
 | .sub => κ (.int k (k.wrap (x - y)))
 | .mul => κ (.int k (k.wrap (x * y)))
 | .quo => chk (y ≠ 0) (κ (.int k (k.wrap (x.tdiv y))))
 | .rem => chk (y ≠ 0) (κ (.int k (x.tmod y)))
 | .and => κ (.int k (bAnd k x y))
 | .or => κ (.int k (bOr k x y))
 | .xor => κ (.int k (bXor k x y))
 | .andNot => κ (.int k (bAndNot k x y))
 | .eql => κ (.bool (decide (x = y)))
 | .neq => κ (.bool (decide (x ≠ y)))
 | .lss => κ (.bool (decide (x < y)))
 | .leq => κ (.bool (decide (x ≤ y)))
 | .gtr => κ (.bool (decide (y < x)))
 | .geq => κ (.bool (decide (y ≤ x)))
 | .shl => none
 | .shr => none
theorem intX_eq (op : BinOp) (k : IntKind) (x y : Int) (κ : AV → Ans) : intX op k x y κ = (aInt op k x y).bind κ := by
 cases op <;> simp only [intX, aInt, chk, qO2, Option.bind_none] <;> try rfl
 ·by_cases h : y = 0 <;> simp [h]
 ·by_cases h : y = 0 <;> simp [h]
 all_goals first
  | rw [int_bne]; simp
  | rw [int_beq]
def binX (L : Nat → Option TI) (t : Nat) (op : BinOp) (c : Bool) (x y : AV) (κ : AV → Ans) : Ans := match x, y with
 | .int k a, .int k' b => match op with
  | .shl => chk (0 ≤ b) (κ (.int k (bShl k a b)))
  | .shr => chk (0 ≤ b) (κ (.int k (bShr k a b)))
  | op => chk (k = k') (intX op k a b κ)
 | x, y => optX (aBinN L t op c x y) κ
theorem binX_eq (L : Nat → Option TI) (t : Nat) (op : BinOp) (c : Bool) (x y : AV) (κ : AV → Ans) : binX L t op c x y κ = (aBinN L t op c x y).bind κ := by
 unfold binX
 split
 ·rename_i k a k' b
  have hs : ∀ (p : AV), chk (0 ≤ b) (κ p) = (if b < 0 then none else some p).bind κ := fun p => by
   by_cases h : b < 0
   ·rw [if_pos h, chk, if_neg (by omega)]; rfl
   ·rw [if_neg h, chk, if_pos (by omega)]; rfl
  have hi : ∀ op, chk (k = k') (intX op k a b κ) = (if k = k' then aInt op k a b else none).bind κ := fun op => by
   rw [chk, intX_eq]; split <;> rfl
  cases op <;> simp only [aBinN, nilCmp, aBin, aShift, hs, hi] <;> rfl
 ·exact zch _ _
def unX (op : UnOp) (x : AV) (κ : AV → Ans) : Ans := match op, x with
 | .neg, .int k n => κ (.int k (k.wrap (0 - n)))
 | .xor, .int k n => κ (.int k (bXor k (if k.signed then -1 else k.max) n))
 | .not, .bool b => κ (.bool (!b))
 | _, _ => none
theorem unX_eq (op : UnOp) (x : AV) (κ : AV → Ans) : unX op x κ = (aUn op x).bind κ := by
 cases op <;> cases x <;> rfl
def cutX (sz l h : Nat) (av : AV) (κ : AV → Ans) : Ans := match av with
 | .msl k g z o _ => chk (z = sz) (κ (.msl k g z (o + l * sz) (h - l)))
 | .isl z n cells => chk (z = sz) (chk (cells.length = n * sz) (takeX cells (l * sz) ((h - l) * sz) fun c => κ (.isl z (h - l) c)))
 | .fsl z n cells => chk (z = sz) (chk (cells.length = n * sz) (takeX cells (l * sz) ((h - l) * sz) fun c => κ (.isl z (h - l) c)))
 | .nsl => κ .nsl
 | _ => none
theorem cutX_eq (sz l h : Nat) (av : AV) (κ : AV → Ans) : cutX sz l h av κ = (cutA sz l h av).bind κ := by
 cases av <;> simp only [cutX, cutA, chk, takeX] <;> try rfl
 ·split <;> rfl
 ·rename_i z n cells; by_cases h1 : z = sz <;> by_cases h2 : cells.length = n * sz <;> simp [h1, h2]
 ·rename_i z n cells; by_cases h1 : z = sz <;> by_cases h2 : cells.length = n * sz <;> simp [h1, h2]
def bndX (d : Int) (v : Option AV) (κ : Int → Ans) : Ans := match v with
 | some (.int _ n) => κ n
 | some _ => none
 | none => κ d
theorem bndX_eq (d : Int) (v : Option AV) (κ : Int → Ans) : bndX d v κ = (bnd d v).bind κ := by
 cases v with
 | none => rfl
 | some v => cases v <;> rfl
def optOpX (st : St) (x : Option Operand) (κ : Option AV → Ans) : Ans := match x with
 | some x => opX st x fun v => κ (some v)
 | none => κ none
theorem zn4 (st : St) (x : Option Operand) (κ : Option AV → Ans) : optOpX st x κ = κ (x.map (operand st)) := by
 cases x <;> simp only [optOpX, opX_eq, Option.map_some, Option.map_none]
def sliceX (sz : Nat) (x : AV) (lo hi : Option AV) (κ : AV → Ans) : Ans :=
 optX (slLen x) fun n => bndX n hi fun h => bndX 0 lo fun l => chk (0 ≤ l ∧ l ≤ h ∧ h ≤ n) (cutX sz l.toNat h.toNat x κ)
theorem sliceX_eq (sz : Nat) (x : AV) (lo hi : Option AV) (κ : AV → Ans) : sliceX sz x lo hi κ = (aSlice sz x lo hi).bind κ := by
 simp only [sliceX, aSlice, zch, bndX_eq, chk, cutX_eq]
 cases slLen x with
 | none => rfl
 | some n =>
  simp only [qO2, qO3]
  cases bnd n hi with
  | none => rfl
  | some h =>
   simp only [qO2]
   cases bnd 0 lo with
   | none => rfl
   | some l => simp only [qO2]; split <;> rfl
def slCellsX (st : St) (sz : Nat) (x : AV) (κ : Nat → List AV → Ans) : Ans := match x with
 | .msl s g z o n => chk (z = sz) (blkX st s g fun cells => chk (o + n * sz ≤ cells.length) (takeX cells o (n * sz) fun c => κ n c))
 | .isl z n cells => chk (z = sz) (chk (cells.length = n * sz) (κ n cells))
 | .fsl z n cells => chk (z = sz) (chk (cells.length = n * sz) (κ n cells))
 | .nsl => κ 0 []
 | _ => none
theorem zfx (st : St) (sz : Nat) (x : AV) (κ : Nat → List AV → Ans) : slCellsX st sz x κ = (slCells st sz x).bind fun p => κ p.1 p.2 := by
 cases x <;> simp only [slCellsX, slCells, chk, takeX, zc6] <;> try rfl
 ·rename_i s g z o n
  by_cases h1 : z = sz
  ·simp only [h1, if_true]
   cases blkOf st s g with
   | none => rfl
   | some cells => simp only [qO2]; split <;> rfl
  ·simp only [h1, if_false]; rfl
 ·rename_i z n cells; by_cases h1 : z = sz <;> by_cases h2 : cells.length = n * sz <;> simp [h1, h2]
 ·rename_i z n cells; by_cases h1 : z = sz <;> by_cases h2 : cells.length = n * sz <;> simp [h1, h2]
def keyX (k : Nat) (κ : Nat → Ans) : Ans := κ k
def joinX (a b : List AV) (κ : List AV → Ans) : Ans := κ (a ++ b)
def appX (sz bytes : Nat) (st : St) (d : Nat) (s x : AV) (κ : AV → St → Ans) : Ans := slCellsX st sz x fun n new => match s with
 | .nsl => chk (0 < bytes ∧ 0 < sz ∧ n * bytes ≤ 140737488355328) (newX st d new fun g st' => κ (.msl d g sz 0 n) st')
 | .msl site g z o m => blkX st site g fun cells => chk (z = sz) (chk (0 < bytes ∧ 0 < sz) (chk (o + m * sz = cells.length) (chk ((m + n) * bytes ≤ 140737488355328)
   (joinX (cells.drop o) new fun c => keyX (m + n) fun q => newX st site c fun g' st' => κ (.msl site g' sz 0 q) st'))))
 | _ => none
theorem appX_eq (sz bytes : Nat) (st : St) (d : Nat) (s x : AV) (κ : AV → St → Ans) : appX sz bytes st d s x κ = (aAppend sz bytes st d s x).bind fun p => κ p.1 p.2 := by
 simp only [appX, aAppend, zfx, chk, ze3, zc6, joinX, keyX]
 cases slCells st sz x with
 | none => rfl
 | some p =>
  obtain ⟨n, new⟩ := p
  simp only [qO2, qO3]
  cases s <;> simp only [] <;> try rfl
  ·rename_i site g z o m
   cases blkOf st site g with
   | none => rfl
   | some cells =>
    simp only [qO2]
    by_cases h1 : z = sz <;> by_cases h2 : 0 < bytes ∧ 0 < sz <;> by_cases h3 : o + m * sz = cells.length <;> by_cases h4 : (m + n) * bytes ≤ 140737488355328 <;> simp [h1, h2, h3, h4]
  ·split <;> rfl
def lendX (L : Nat → Option TI) (st : St) : Nat → List AV → List Nat → (List AV → List (Option (List AV)) → List (Option (Nat × Nat × Nat)) → Ans) → Ans
 | _, [], _, κ => κ [] [] []
 | j, v :: vs, ts, κ => match v with
  | .ref s g o => blkX st s g fun cells => optX (lendSize L (cells.length - o) ts.head?) fun n => chk (o + n ≤ cells.length) (takeX cells o n fun c =>
    lendX L st (j + 1) vs (ts.drop 1) fun a b p => κ (.ref j (st.tag + 1, 0) 0 :: a) (some c :: b) (some (s, o, n) :: p))
  | .msl s g z o n => blkX st s g fun cells => chk (o + n * z ≤ cells.length) (takeX cells o (n * z) fun c =>
    lendX L st (j + 1) vs (ts.drop 1) fun a b p => κ (.isl z n c :: a) (none :: b) (none :: p))
  | .fsl z n cells => lendX L st (j + 1) vs (ts.drop 1) fun a b p => κ (.isl z n cells :: a) (none :: b) (none :: p)
  | .tup _ => none
  | .mapd _ _ => none
  | .yld _ _ => none
  | v => lendX L st (j + 1) vs (ts.drop 1) fun a b p => κ (v :: a) (none :: b) (none :: p)
theorem lendX_eq (L : Nat → Option TI) (st : St) (j : Nat) (vs : List AV) (ts : List Nat) (κ : List AV → List (Option (List AV)) → List (Option (Nat × Nat × Nat)) → Ans) :
  lendX L st j vs ts κ = (lendAll L st j vs ts).bind fun l => κ (l.map (·.1)) (l.map (·.2.1)) (l.map (·.2.2)) := by
 induction vs generalizing j ts κ with
 | nil => rfl
 | cons v vs ih =>
  simp only [lendX, lendAll]
  cases v <;> simp only [lend, zc6, zch, chk, takeX, ih, qO3] <;> try (cases lendAll L st (j + 1) vs (ts.drop 1) <;> rfl)
  ·rename_i s g o
   cases blkOf st s g with
   | none => rfl
   | some cells =>
    simp only [qO2]
    cases lendSize L (cells.length - o) ts.head? with
    | none => rfl
    | some n =>
     simp only [qO2]
     split
     ·cases lendAll L st (j + 1) vs (ts.drop 1) <;> rfl
     ·rfl
  ·rename_i s g z o n
   cases blkOf st s g with
   | none => rfl
   | some cells =>
    simp only [qO2]
    split
    ·cases lendAll L st (j + 1) vs (ts.drop 1) <;> rfl
    ·rfl
def giveX (st : St) : List (Option (Nat × Nat × Nat)) → List (Option (List AV)) → (St → Ans) → Ans
 | [], [], κ => κ st
 | none :: l, none :: r, κ => giveX st l r κ
 | some (s, o, n) :: l, some cells :: r, κ => agetX s st.heap (fun b => chk (cells.length = n) (setX b.cells o cells fun c => putCellsX st s c fun st' => giveX st' l r κ)) none
 | _, _, _ => none
theorem giveX_eq (st : St) (l : List (Option (Nat × Nat × Nat))) (r : List (Option (List AV))) (κ : St → Ans) : giveX st l r κ = (giveBack st l r).bind κ := by
 induction l generalizing st r with
 | nil => cases r <;> rfl
 | cons p l ih =>
  cases p with
  | none =>
   cases r with
   | nil => rfl
   | cons q r => cases q with
    | none => simp only [giveX, giveBack, ih]
    | some c => rfl
  | some p =>
   obtain ⟨s, o, n⟩ := p
   cases r with
   | nil => rfl
   | cons q r => cases q with
    | none => rfl
    | some c =>
     simp only [giveX, giveBack, zc3, chk, setX, zce, ih]
     cases aget s st.heap with
     | none => rfl
     | some b => simp only; split <;> rfl
def adoptX (own : Bool) (st : St) (d : Nat) (v : AV) (κ : AV → St → Ans) : Ans := match own with
 | true => match v with
  | .fsl z n cells => newX st d cells fun g st' => κ (.msl d g z 0 n) st'
  | v => κ v st
 | false => κ v st
theorem zo5 (own : Bool) (st : St) (d : Nat) (v : AV) (κ : AV → St → Ans) : adoptX own st d v κ = κ (adopt own st d v).1 (adopt own st d v).2 := by
 cases own
 ·rfl
 ·cases v <;> simp only [adoptX, adopt, ze3, if_true]
def callX (L : Nat → Option TI) (own : Bool) (Γ : Oracle) (st : St) (d f : Nat) (args : List AV) (ts : List Nat) (κ : AV → St → Ans) : Ans :=
 lendX L st 0 args ts fun a b p => match lentApart p && readFree p args with
  | true => resX (Γ f (st.tag + 1) a b) fun v r => giveX st p r fun st' => adoptX own st' d v κ
  | false => none
theorem callX_eq (L : Nat → Option TI) (own : Bool) (Γ : Oracle) (st : St) (d f : Nat) (args : List AV) (ts : List Nat) (κ : AV → St → Ans) :
  callX L own Γ st d f args ts κ = (aCall L own Γ st d f args ts).bind fun p => κ p.1 p.2 := by
 simp only [callX, aCall, lendX_eq]
 cases lendAll L st 0 args ts with
 | none => rfl
 | some l =>
  simp only [qO2, qO3]
  cases lentApart (l.map (·.2.2)) && readFree (l.map (·.2.2)) args
  ·rfl
  ·simp only [resX, if_true]
   cases Γ f (st.tag + 1) (l.map (·.1)) (l.map (·.2.1)) with
   | none => rfl
   | some q =>
    obtain ⟨v, r⟩ := q
    simp only [qO2, giveX_eq, zo5]
    cases giveBack st (l.map (·.2.2)) r <;> rfl
def roX (L : Nat → Option TI) (Γ : Oracle) (st : St) (f : Nat) (args : List AV) (ts : List Nat) (κ : AV → St → Ans) : Ans :=
 lendX L st 0 args ts fun a b p => match lentApart p && readFree p args with
  | true => resX (Γ f (st.tag + 1) a b) fun v r => match lentSame b r with
   | true => κ v st
   | false => none
  | false => none
theorem roX_eq (L : Nat → Option TI) (Γ : Oracle) (st : St) (f : Nat) (args : List AV) (ts : List Nat) (κ : AV → St → Ans) :
  roX L Γ st f args ts κ = (roCall L Γ st f args ts).bind fun p => κ p.1 p.2 := by
 simp only [roX, roCall, lendX_eq]
 cases lendAll L st 0 args ts with
 | none => rfl
 | some l =>
  simp only [qO2, qO3]
  cases lentApart (l.map (·.2.2)) && readFree (l.map (·.2.2)) args
  ·rfl
  ·simp only [resX, if_true]
   cases Γ f (st.tag + 1) (l.map (·.1)) (l.map (·.2.1)) with
   | none => rfl
   | some q =>
    obtain ⟨v, r⟩ := q
    simp only [qO2]
    cases lentSame (l.map (·.2.1)) r <;> rfl
def hGX (j0 : Nat) (hd : List AV) (f : Nat) (rd : Option (List Nat)) (V : Pol) (Γ : Oracle) (st : St) (d : Nat) (args : List AV) (κ : AV → St → Ans) : Ans := (hCallG j0 hd f rd V Γ st d args).bind fun p => κ p.1 p.2
def hX (rd : Option (List Nat)) (V : Pol) (Γ : Oracle) (st : St) (d f : Nat) (args : List AV) (κ : AV → St → Ans) : Ans := hGX 0 [.mapd [] []] (f + 1000000000) rd V Γ st d args κ
theorem hX_eq (rd : Option (List Nat)) (V : Pol) (Γ : Oracle) (st : St) (d f : Nat) (args : List AV) (κ : AV → St → Ans) : hX rd V Γ st d f args κ = (hCall rd V Γ st d f args).bind fun p => κ p.1 p.2 := rfl
def yX (rd : Option (List Nat)) (Γ : Oracle) (st : St) (d : Nat) (y : YInfo) (args : List AV) (κ : AV → St → Ans) : Ans := match args.all AV.top with
 | true => hGX 250000 [.mapd [.nilM] [], .yld y []] (y.num + 1000000000) rd .all Γ st d args κ
 | false => none
theorem yX_eq (rd : Option (List Nat)) (Γ : Oracle) (st : St) (d : Nat) (y : YInfo) (args : List AV) (κ : AV → St → Ans) : yX rd Γ st d y args κ = (yCall rd Γ st d y args).bind fun p => κ p.1 p.2 := by
 unfold yX yCall
 cases args.all AV.top <;> rfl
def vX (rd : Option (List Nat)) (own : Bool) (Γ : Oracle) (st : St) (d f : Nat) (args : List AV) (κ : AV → St → Ans) : Ans := (vCall rd own Γ st d f args).bind fun p => κ p.1 p.2
def yK (K : Ann) (Γ : Oracle) (st : St) (d : Nat) (y : YInfo) (κ : AV → St → Ans) (args : List AV) : Ans := match K.hp.contains d with
 | true => yX (aget d K.reads) Γ st d y args κ
 | false => none
def tiX (L : Nat → Option TI) (t : Nat) (κ : TI → Ans) : Ans := match L t with | some i => κ i | none => none
theorem tiX_eq (L : Nat → Option TI) (t : Nat) (κ : TI → Ans) : tiX L t κ = (L t).bind κ := by
 unfold tiX; cases L t <;> rfl
def plX (L : Nat → Option TI) (fs : List (Nat × Nat)) (k : Nat) : Option (Nat × Nat) := match fs[k]? with
 | some (o, ty) => match L ty with
  | some j => some (o, j.size)
  | none => none
 | none => none
theorem plX_eq (L : Nat → Option TI) (fs : List (Nat × Nat)) : (fun k => do let (o, ty) ← fs[k]?; let j ← L ty; some (o, j.size)) = plX L fs := by
 funext k
 unfold plX
 cases fs[k]? with
 | none => rfl
 | some p =>
  obtain ⟨o, ty⟩ := p
  simp only [qO3, qO2]
  cases L ty <;> rfl
def fldX (L : Nat → Option TI) (s f : Nat) (κ : Nat → TI → Ans) : Ans := tiX L s fun i => match i.desc with
 | .strct fs => match fs[f]? with
  | some (o, t) => tiX L t fun j => κ o j
  | none => none
 | _ => none
theorem fldX_eq (L : Nat → Option TI) (s f : Nat) (κ : Nat → TI → Ans) : fldX L s f κ = (fieldOf L s f).bind fun p => κ p.1 p.2 := by
 simp only [fldX, fieldOf, tiX_eq]
 cases L s with
 | none => rfl
 | some i =>
  simp only [qO2, qO3]
  cases i.desc <;> simp only <;> try rfl
  rename_i fs
  cases fs[f]? with
  | none => rfl
  | some p =>
   obtain ⟨o, t⟩ := p
   simp only [qO2]
   cases L t <;> rfl
def selX (L : Nat → Option TI) (t : Nat) (κ : TI → Ans) : Ans := tiX L t fun i => match i.desc with
 | .slice e => tiX L e κ
 | _ => none
theorem zhl (L : Nat → Option TI) (t : Nat) (κ : TI → Ans) : selX L t κ = (slElem L t).bind κ := by
 simp only [selX, slElem, tiX_eq]
 cases L t with
 | none => rfl
 | some i =>
  simp only [qO2, qO3]
  cases i.desc <;> rfl
def mapX (st : St) (s : Nat) (g : Nat × Nat) (κ : List AV → List AV → Ans) : Ans := match st with
 | ⟨_, heap, _, _⟩ => match isMapKey s with
  | false => none
  | true => agetX s heap (fun b => match b with | ⟨σ, cells⟩ => chk (σ = g) (match cells with | [.mapd ks vs] => κ ks vs | _ => none)) none
theorem zpb (st : St) (s : Nat) (g : Nat × Nat) (κ : List AV → List AV → Ans) : mapX st s g κ = (mapOf st s g).bind fun p => κ p.1 p.2 := by
 obtain ⟨env, heap, next, tag⟩ := st
 simp only [mapX, mapOf, zc3, chk]
 cases isMapKey s with
 | false => rfl
 | true =>
 simp only [if_true]
 cases aget s heap with
 | none => rfl
 | some b =>
  obtain ⟨σ, cells⟩ := b
  simp only
  by_cases h : σ = g
  ·simp only [h, if_true]
   rcases cells with _ | ⟨c, _ | ⟨c2, r⟩⟩
   ·rfl
   ·cases c <;> rfl
   ·cases c <;> rfl
  ·simp only [h, if_false]; rfl
def mapArgX (st : St) (m : AV) (κ : List AV → List AV → Ans) : Ans := match m with
 | .mref s g => mapX st s g κ
 | .nilM => κ [] []
 | .imp ks vs => κ ks vs
 | _ => none
theorem mapArgX_eq (st : St) (m : AV) (κ : List AV → List AV → Ans) : mapArgX st m κ = (mapArg st m).bind fun p => κ p.1 p.2 := by
 cases m <;> simp only [mapArgX, mapArg, zpb] <;> rfl
def builtinX (L : Nat → Option TI) (st : St) (d : Nat) (b : Builtin) (ts : List Nat) (args : List AV) (κ : AV → St → Ans) : Ans := match b, ts, args with
 | .append, t :: t' :: _, [s, x] => selX L t fun e => chk (t' = t ∧ e.zero.length = e.size) (appX e.size e.bytes st d s x κ)
 | .copy, t :: t' :: _, [.msl s g z o m, x] => selX L t fun e => selX L t' fun _ => slCellsX st e.size x fun n new => blkX st s g fun cells =>
  chk (z = e.size ∧ o + m * z ≤ cells.length) (takeX new 0 (min n m * z) fun c => setX cells o c fun c => putCellsX st s c fun st' => κ (.int .i64 (min n m : Nat)) st')
 | .clear, t :: _, [.msl s g z o m] => selX L t fun e => blkX st s g fun cells => chk (z = e.size ∧ o + m * z ≤ cells.length ∧ e.zero.length = z ∧ 0 < z)
   (normX (repl m e.zero) fun r => setX cells o r fun c => putCellsX st s c fun st' => κ (.tup []) st')
 | .delete, t :: _, [.mref s g, k] => optX (mapTy L t) fun q => match q with | (kt, _) => mapX st s g fun ks vs => chk (keyEq L kt k k = some true) (optX (mdel L kt k ks vs) fun r => match r with | (ks', vs') => putCellsX st s [.mapd ks' vs'] fun st' => κ (.tup []) st')
 | b, ts, args => optX (aBuiltin L st d b ts args) fun p => match p with | (v, st') => κ v st'
theorem zj9 (L : Nat → Option TI) (st : St) (d : Nat) (b : Builtin) (ts : List Nat) (args : List AV) (κ : AV → St → Ans) : builtinX L st d b ts args κ = (aBuiltin L st d b ts args).bind fun p => κ p.1 p.2 := by
 unfold builtinX
 split
 ·rename_i t t' _ s x
  simp only [zhl, chk, appX_eq, aBuiltin]
  cases slElem L t with
  | none => rfl
  | some e => simp only [qO2, qO3]; split <;> rfl
 ·rename_i t t' _ s g z o m x
  simp only [zhl, chk, zfx, zc6, takeX, setX, zce, aBuiltin]
  cases slElem L t with
  | none => rfl
  | some e =>
   simp only [qO2, qO3]
   cases slElem L t' with
   | none => rfl
   | some e' =>
    simp only [qO2]
    cases slCells st e.size x with
    | none => rfl
    | some p =>
     obtain ⟨n, new⟩ := p
     simp only [qO2]
     cases blkOf st s g with
     | none => rfl
     | some cells => simp only [qO2, List.drop_zero]; split <;> rfl
 ·rename_i t _ s g z o m
  simp only [zhl, chk, zc6, normX, setX, zce, aBuiltin]
  cases slElem L t with
  | none => rfl
  | some e =>
   simp only [qO2, qO3]
   cases blkOf st s g with
   | none => rfl
   | some cells => simp only [qO2]; split <;> rfl
 ·rename_i t _ s g k
  simp only [zch, chk, zpb, zce, aBuiltin]
  cases mapTy L t with
  | none => rfl
  | some q =>
   obtain ⟨kt, e⟩ := q
   simp only [qO2, qO3]
   cases mapOf st s g with
   | none => rfl
   | some p =>
    obtain ⟨ks, vs⟩ := p
    simp only [qO2]
    split
    ·cases mdel L kt k ks vs <;> rfl
    ·rfl
 ·rw [zch]
def bytX (cells : List AV) (κ : List Int → Ans) : Ans := match u8s cells with | some xs => κ xs | none => none
def natX (n : Int) (κ : Nat → Ans) : Ans := κ n.toNat
def assignX (L : Nat → Option TI) (K : Ann) (st : St) (d ty : Nat) (x : Operand) (κ : AV → St → Ans) : Ans := match x with
 | .const c => match ofConst c with
  | .nsl => match K.own.contains d with
   | true => selX L ty fun e => newX st d [] fun g st' => κ (.msl d g e.size 0 0) st'
   | false => κ .nsl st
  | v => κ v st
 | x => opX st x fun v => κ v st
def shortX (st : St) (l : List AV) (κ : List AV → St → Ans) : Ans := match l with
 | .msl s g z o m :: r => blkX st s g fun cells => chk (o + m * z ≤ cells.length) (takeX cells 0 (o + m * z) fun c => newX st s c fun g' st' => κ (.msl s g' z o m :: r) st')
 | l => κ l st
theorem shortX_eq (st : St) (l : List AV) (κ : List AV → St → Ans) : shortX st l κ = (shorten st l).bind fun p => κ p.1 p.2 := by
 unfold shortX shorten
 split
 ·simp only [zc6, chk, takeX, ze3, List.drop_zero]
  rename_i s g z o m r
  cases blkOf st s g with
  | none => rfl
  | some cells =>
   simp only [qO2]
   split <;> rfl
 ·rename_i h
  split
  ·rename_i s g z o m r
   exact (h s g z o m r rfl).elim
  ·rfl
def builtinK (L : Nat → Option TI) (K : Ann) (st : St) (d : Nat) (b : Builtin) (ts : List Nat) (κ : AV → St → Ans) (args : List AV) : Ans := match K.hp.contains d && isAppend b with
 | true => shortX st args fun args st' => builtinX L st' d b ts args κ
 | false => match isAppend b && !(args.all (okRead (aget d K.reads))) with
  | true => none
  | false => builtinX L st d b ts args κ
def exOp (L : Nat → Option TI) (K : Ann) (Γ : Oracle) (st : St) (d ty : Nat) (op : Op) (κ : AV → St → Ans) : Ans := match op with
 | .move x => opX st x fun v => κ v st
 | .assign x => assignX L K st d ty x κ
 | .pick c a b => opX st c fun v => match v with
  | .bool x => brX x (opX st a fun v => κ v st) (opX st b fun v => κ v st)
  | _ => none
 | .alloc e => tiX L e fun i => normX i.zero fun z => newX st d z fun g st' => κ (.ref d g 0) st'
 | .box _ x => opX st x fun v => match v.solid with
  | true => cellsX v fun cs => newX st d cs fun g st' => κ (.ref d g 0) st'
  | false => none
 | .build t ps => tiX L t fun i => match i.desc with
  | .strct fs => partsX st ps.toList fun pv => normX i.zero fun z => fillX (plX L fs) z pv fun cs => κ (.agg cs) st
  | .arr _ e => tiX L e fun j => partsX st ps.toList fun pv => normX i.zero fun z => fillX (fun k => some (k * j.size, j.size)) z pv fun cs => κ (.agg cs) st
  | _ => none
 | .buildSlice t n ps => selX L t fun e => chk (n * e.size ≤ 16777216 ∧ e.zero.length = e.size ∧ 0 < e.size)
   (partsX st ps.toList fun pv => normX (repl n e.zero) fun z => fillX (fun k => some (k * e.size, e.size)) z pv fun cs => newX st d cs fun g st' => κ (.msl d g e.size 0 n) st')
 | .load t a => opX st a fun p => match okRead (aget d K.reads) p with
  | false => none
  | true => tiX L t fun i => gldX K.reads i st p fun v => κ v st
 | .store t a x => opX st a fun p => match okStore (K.storeAt a) p with
  | false => none
  | true => tiX L t fun i => opX st x fun v => stX i st p v fun st' => κ (.tup []) st'
 | .nilCheck x => opX st x fun v => match v with
  | .ref s g o => κ (.ref s g o) st
  | .ipt c => κ (.ipt c) st
  | _ => none
 | .binOp op t x y _ => opX st x fun a => opX st y fun b => binX L t op (isConstO x || isConstO y) a b fun v => κ v st
 | .unOp op _ x => opX st x fun v => unX op v fun v => κ v st
 | .typeAssert x _ t ok => opX st x fun v => optX (aAs L t ok v) fun v => κ v st
 | .convert s t x => tiX L s fun i => tiX L t fun j => opX st x fun v => match i.desc, j.desc, v with
  | .int _, .int k, .int _ n => κ (.int k (k.wrap n)) st
  | .slice e, .str, v => match okRead (aget d K.reads) v with
   | false => none
   | true => tiX L e fun ie => match ie.desc with
    | .int .u8 => slCellsX st 1 v fun _ cells => bytX cells fun xs => κ (.str (strOfNums xs)) st
    | _ => none
  | _, _, _ => none
 | .makeSlice t ln cp => selX L t fun e => opX st ln fun a => opX st cp fun b => match a, b with
  | .int _ n, .int _ k => chk (0 ≤ n ∧ n ≤ k ∧ k.toNat * e.size ≤ 16777216 ∧ k.toNat * e.bytes ≤ 140737488355328 ∧ k ≤ 140737488355328 ∧ e.zero.length = e.size ∧ 0 < e.size)
    (natX n fun n => normX (repl n e.zero) fun z => newX st d z fun g st' => κ (.msl d g e.size 0 n) st')
  | _, _ => none
 | .fieldAddr s x f => fldX L s f fun o j => match Nat.beq j.size 0 with
  | true => none
  | false => opX st x fun v => match v with
   | .ref s g k => κ (.ref s g (k + o)) st
   | .ipt cells => κ (.ipt (cells.drop o)) st
   | _ => none
 | .field s x f => fldX L s f fun o j => opX st x fun v => match v with
  | .agg cs => rdX j cs o fun v => κ v st
  | _ => none
 | .indexAddr t x ix => opX st x fun v => match okRead (aget d K.reads) v with
  | false => none
  | true => tiX L t fun i => opX st ix fun iv => match iv with
   | .int _ k => match i.desc with
    | .arr n e => tiX L e fun j => chk (0 ≤ k ∧ k < n) (match v with
     | .ref s g o => κ (.ref s g (o + k.toNat * j.size)) st
     | .ipt cells => κ (.ipt (cells.drop (k.toNat * j.size))) st
     | _ => none)
    | .slice e => tiX L e fun j => match v with
     | .msl s g z o n => chk (z = j.size ∧ 0 ≤ k ∧ k < n) (blkX st s g fun _ => κ (.ref s g (o + k.toNat * j.size)) st)
     | .isl z n cells => chk (z = j.size ∧ 0 ≤ k ∧ k < n) (κ (.ipt (cells.drop (k.toNat * j.size))) st)
     | .fsl z n cells => chk (z = j.size ∧ 0 ≤ k ∧ k < n) (κ (.ipt (cells.drop (k.toNat * j.size))) st)
     | _ => none
    | _ => none
   | _ => none
 | .sliceToArrayPointer t x => opX st x fun v => match okRead (aget d K.reads) v with
  | false => none
  | true => tiX L t fun i => match i.desc with
   | .arr n _ => match v with
    | .msl s g _ o m => chk (n ≤ m ∧ 0 < m) (blkX st s g fun _ => κ (.ref s g o) st)
    | .isl _ m cells => chk (n ≤ m ∧ 0 < m) (κ (.ipt cells) st)
    | .fsl _ m cells => chk (n ≤ m ∧ 0 < m) (κ (.ipt cells) st)
    | _ => none
   | _ => none
 | .index t x ix => tiX L t fun i => opX st ix fun iv => opX st x fun v => match iv with
  | .int _ k => match i.desc, v with
   | .arr n e, .agg cs => tiX L e fun j => chk (0 ≤ k ∧ k < n) (rdX j cs (k.toNat * j.size) fun v => κ v st)
   | .str, .str s => chk (0 ≤ k) (strX s k.toNat fun v => κ v st)
   | _, _ => none
  | _ => none
 | .slice t x lo hi (some mx) => opX st x fun v => match okRead (aget d K.reads) v with
  | false => none
  | true => tiX L t fun i => match i.desc with
   | .slice e => tiX L e fun _ => optX (slLen v) fun n => opX st mx fun mv => optX (asInt? mv) fun k => optOpX st hi fun h => bndX (-1) h fun hh => optOpX st lo fun l => bndX 0 l fun l =>
     chk (0 ≤ l ∧ l = hh ∧ hh = k ∧ k ≤ n ∧ v.isStr = false) (κ .nsl st)
   | _ => none
 | .slice t x lo hi none => opX st x fun v => match !okRead (aget d K.reads) v with
  | true => none
  | false => tiX L t fun i => optOpX st lo fun l => optOpX st hi fun h => match i.desc with
   | .str => optX (aStrSlice v l h) fun v => κ v st
   | .slice e => tiX L e fun j => sliceX j.size v l h fun v => κ v st
   | .arr n e => tiX L e fun j => match v with
    | .ref s g o => blkX st s g fun cells => chk (o + n * j.size ≤ cells.length) (sliceX j.size (.msl s g j.size o n) l h fun v => κ v st)
    | _ => none
   | _ => none
 | .extract x k => opX st x fun v => match v with
  | .tup vs => optX vs[k]? fun v => κ v st
  | _ => none
 | .call c => match c.callee with
  | .builtin b => opsX st c.args.toList (builtinK L K st d b c.argTypes.toList κ)
  | .value f => opX st f fun v => match v with
   | .fn g captured => opsX st c.args.toList fun args => joinX args captured fun args => match K.hp.contains d with
    | true => match K.ro.contains d with
     | true => vX (aget d K.reads) (K.own.contains d) Γ st d g args κ
     | false => hX (aget d K.reads) (polOf L K d args c.argTypes.toList) Γ st d g args κ
    | false => match args.all (okRead (aget d K.reads)) with
     | true => match K.ro.contains d with
      | false => callX L (K.own.contains d) Γ st d g args c.argTypes.toList κ
      | true => roX L Γ st g args c.argTypes.toList κ
     | false => none
   | .yld y captured => opsX st c.args.toList fun args => joinX args captured (yK K Γ st d y κ)
   | _ => none
  | .invoke .. => none
 | .makeMap t none => optX (mapTy L t) fun _ => keyX (d + 500000) fun k => newX st k [.mapd [] []] fun g st' => κ (.mref k g) st'
 | .lookup t x ix ok => opX st x fun m => match okMap (aget d K.reads) m with
  | false => none
  | true => optX (mapTy L t) fun q => match q with | (kt, e) => tiX L e fun j => opX st ix fun k => mapArgX st m fun ks vs => optX (mlook L kt j.zeroAV k ks vs) fun r => match r with | (v, is) => match ok with
   | true => κ (.tup [v, .bool is]) st
   | false => κ v st
 | .mapUpdate t x k v => optX (mapTy L t) fun q => match q with | (kt, _) => opX st x fun m => match m with
  | .mref s g => opX st k fun kv => opX st v fun vv => mapX st s g fun ks vs => chk (keyEq L kt kv kv = some true ∧ vv.solid = true ∧ vv.top = true) (optX (mput L kt kv vv ks vs) fun r => match r with | (ks', vs') => putCellsX st s [.mapd ks' vs'] fun st' => κ (.tup []) st')
  | _ => none
 | .makeFunc fn first captured => match fn with
  | .func f => match Nat.beq first.size 0 with
   | true => opsX st captured.toList fun vs => match vs.all AV.isRef with
    | true => κ (.fn f vs) st
    | false => none
   | false => none
  | _ => none
 | op => optX (denOp L K Γ st d ty op) fun p => match p with | (v, st') => κ v st'
theorem exOp_eq (L : Nat → Option TI) (K : Ann) (Γ : Oracle) (st : St) (d ty : Nat) (op : Op) (κ : AV → St → Ans) : exOp L K Γ st d ty op κ = (denOp L K Γ st d ty op).bind fun p => κ p.1 p.2 := by
 cases op
 case move => simp only [exOp, denOp, opX_eq, qO2]
 case assign x =>
  simp only [exOp, denOp, assignX, opX_eq]
  cases x with
  | const c =>
   simp only [operand]
   cases hc : ofConst c <;> simp only [qO2]
   cases K.own.contains d
   ·rfl
   ·simp only [zhl, ze3, if_true]
    cases slElem L ty <;> rfl
  | tmp t => simp only [qO2]
  | func f => simp only [qO2]
  | global g => simp only [qO2]
 case pick c a b =>
  simp only [exOp, denOp, opX_eq]
  cases operand st c <;> simp only <;> try rfl
  rename_i x
  cases x <;> simp [brX]
 case alloc e =>
  simp only [exOp, denOp, tiX_eq, ze3, normX]
  cases L e <;> rfl
 case box t x =>
  simp only [exOp, denOp, opX_eq, zji, ze3]
  cases (operand st x).solid <;> rfl
 case build t ps =>
  simp only [exOp, denOp, tiX_eq, zng, fillX_eq, plX_eq, parts, normX]
  cases L t with
  | none => rfl
  | some i =>
   simp only [qO2, qO3]
   cases i.desc <;> simp only <;> try rfl
   ·rename_i n e
    cases L e with
    | none => rfl
    | some j =>
     simp only [qO2]
     cases fillA (fun k => some (k * j.size, j.size)) i.zero _ <;> rfl
   ·rename_i fs
    cases fillA (plX L fs) i.zero _ <;> rfl
 case buildSlice t n ps =>
  simp only [exOp, denOp, zhl, zng, fillX_eq, ze3, chk, parts, normX]
  cases slElem L t with
  | none => rfl
  | some e =>
   simp only [qO2, qO3]
   split
   ·cases fillA (fun k => some (k * e.size, e.size)) (repl n e.zero) _ <;> rfl
   ·rfl
 case load t a =>
  simp only [exOp, denOp, opX_eq, tiX_eq, gldX_eq]
  cases okRead (aget d K.reads) (operand st a)
  ·rfl
  ·simp only [Bool.not_true, Bool.false_eq_true, if_false, qO3]
   cases L t with
   | none => rfl
   | some i => simp only [qO2]; cases gLoad K.reads i st (operand st a) <;> rfl
 case store t a x =>
  simp only [exOp, denOp, opX_eq, tiX_eq, stX_eq]
  cases okStore (K.storeAt a) (operand st a)
  ·rfl
  ·simp only [Bool.not_true, Bool.false_eq_true, if_false, qO3]
   cases L t with
   | none => rfl
   | some i => simp only [qO2]; cases aStore i st (operand st a) (operand st x) <;> rfl
 case nilCheck x =>
  simp only [exOp, denOp, opX_eq]
  cases operand st x <;> rfl
 case binOp op t x y _ =>
  simp only [exOp, denOp, opX_eq, binX_eq]
  cases aBinN L t op (isConstO x || isConstO y) (operand st x) (operand st y) <;> rfl
 case unOp op t x =>
  simp only [exOp, denOp, opX_eq, unX_eq]
  cases aUn op (operand st x) <;> rfl
 case typeAssert x q t ok =>
  simp only [exOp, denOp, opX_eq]
  cases aAs L t ok (operand st x) <;> rfl
 case convert s t x =>
  simp only [exOp, denOp, opX_eq, tiX_eq]
  cases L s with
  | none => rfl
  | some i =>
   cases L t with
   | none => rfl
   | some j =>
    simp only [qO2, qO3]
    generalize i.desc = a
    generalize j.desc = b
    generalize operand st x = v
    cases a <;> try rfl
    ·cases b <;> try rfl
     cases v <;> rfl
    ·rename_i e
     cases b <;> try rfl
     simp only [zfx, bytX]
     cases okRead (aget d K.reads) v
     ·rfl
     simp only [Bool.not_true, Bool.false_eq_true, if_false]
     cases L e with
     | none => rfl
     | some ie =>
      simp only [qO2]
      generalize ie.desc = dd
      cases dd <;> try rfl
      rename_i k
      cases k <;> try rfl
      cases slCells st 1 v with
      | none => rfl
      | some q =>
       simp only [qO2]
       cases u8s q.2 <;> rfl
 case fieldAddr s x f =>
  simp only [exOp, denOp, opX_eq, fldX_eq]
  cases fieldOf L s f with
  | none => rfl
  | some p =>
   obtain ⟨o, j⟩ := p
   simp only [qO2, qO3]
   rcases beq_tf j.size 0 with ⟨h, e⟩ | ⟨h, e⟩
   ·simp only [h, if_pos e]; rfl
   ·simp only [h, if_neg e]
    cases operand st x <;> rfl
 case field s x f =>
  simp only [exOp, denOp, opX_eq, fldX_eq, rdX_eq]
  cases fieldOf L s f with
  | none => rfl
  | some p =>
   obtain ⟨o, j⟩ := p
   simp only [qO2, qO3]
   cases operand st x <;> simp only <;> try rfl
   rename_i cs
   cases rdCells j cs o <;> rfl
 case sliceToArrayPointer t x =>
  simp only [exOp, denOp, opX_eq, tiX_eq, zc6, chk]
  cases okRead (aget d K.reads) (operand st x)
  ·rfl
  ·simp only [Bool.not_true, Bool.false_eq_true, if_false, qO3]
   cases L t with
   | none => rfl
   | some i =>
    simp only [qO2]
    cases i.desc <;> simp only <;> try rfl
    rename_i n e
    cases operand st x <;> simp only <;> try rfl
    ·rename_i s g z o m
     cases hb : blkOf st s g with
     | none => simp
     | some cells => simp only [qO2, Option.isSome_some, and_true]; split <;> rfl
    ·split <;> rfl
    ·split <;> rfl
 case indexAddr t x ix =>
  simp only [exOp, denOp, opX_eq, tiX_eq, zc6, chk]
  cases okRead (aget d K.reads) (operand st x)
  ·rfl
  ·simp only [Bool.not_true, Bool.false_eq_true, if_false, qO3]
   cases L t with
   | none => rfl
   | some i =>
    simp only [qO2]
    cases operand st ix <;> simp only [asInt?, Option.bind_none, qO2] <;> try rfl
    rename_i k
    cases i.desc <;> simp only <;> try rfl
    ·rename_i e
     cases L e with
     | none => rfl
     | some j =>
      simp only [qO2]
      cases operand st x <;> simp only <;> try rfl
      ·rename_i s g z o n
       cases hb : blkOf st s g with
       | none => simp
       | some cells => simp only [qO2, Option.isSome_some, and_true]; split <;> rfl
      ·split <;> rfl
      ·split <;> rfl
    ·rename_i n e
     cases L e with
     | none => rfl
     | some j =>
      simp only [qO2]
      split
      ·cases operand st x <;> rfl
      ·rfl
 case index t x ix =>
  simp only [exOp, denOp, opX_eq, tiX_eq, rdX_eq, chk, strX]
  cases L t with
  | none => rfl
  | some i =>
   simp only [qO2, qO3]
   cases operand st ix <;> simp only [asInt?, Option.bind_none, qO2] <;> try rfl
   rename_i k
   cases i.desc <;> (try simp only) <;> try rfl
   ·cases operand st x <;> (try simp only) <;> try rfl
    rename_i s
    split
    ·cases s[k.toNat]? <;> rfl
    ·rfl
   ·rename_i n e
    cases operand st x <;> simp only <;> try rfl
    rename_i cs
    cases L e with
    | none => rfl
    | some j =>
     simp only [qO2]
     split
     ·cases rdCells j cs (k.toNat * j.size) <;> rfl
     ·rfl
 case makeSlice t ln cp =>
  simp only [exOp, denOp, zhl, opX_eq, ze3, chk, normX, natX]
  cases slElem L t with
  | none => rfl
  | some e =>
   simp only [qO2, qO3]
   generalize operand st ln = a
   generalize operand st cp = b
   cases a <;> (try simp only) <;> try rfl
   cases b <;> (try simp only) <;> try rfl
   split <;> rfl
 case slice t x lo hi mx =>
  cases mx with
  | some mx =>
   simp only [exOp, denOp, opX_eq, tiX_eq, zn4, zch, bndX_eq, chk]
   cases okRead (aget d K.reads) (operand st x)
   ·rfl
   simp only [Bool.not_true, Bool.false_eq_true, if_false, qO3]
   cases L t with
   | none => rfl
   | some i =>
    simp only [qO2]
    cases i.desc <;> simp only <;> try rfl
    rename_i e
    cases L e with
    | none => rfl
    | some j =>
     simp only [qO2]
     cases slLen (operand st x) with
     | none => rfl
     | some n =>
      simp only [qO2]
      cases asInt? (operand st mx) with
      | none => rfl
      | some k =>
       simp only [qO2]
       cases bnd (-1) (hi.map (operand st)) with
       | none => rfl
       | some hh =>
        simp only [qO2]
        cases bnd 0 (lo.map (operand st)) with
        | none => rfl
        | some l => simp only [qO2]; split <;> rfl
  | none =>
  simp only [exOp, denOp, opX_eq, tiX_eq, zn4, zch, sliceX_eq, zc6, chk]
  cases !okRead (aget d K.reads) (operand st x)
  ·simp only [Bool.false_eq_true, if_false, qO3]
   cases L t with
   | none => rfl
   | some i =>
    simp only [qO2]
    cases i.desc <;> simp only <;> try rfl
    ·cases aStrSlice (operand st x) (lo.map (operand st)) (hi.map (operand st)) <;> rfl
    ·rename_i e
     cases L e with
     | none => rfl
     | some j => simp only [qO2]; cases aSlice j.size (operand st x) (lo.map (operand st)) (hi.map (operand st)) <;> rfl
    ·rename_i n e
     cases L e with
     | none => rfl
     | some j =>
      simp only [qO2]
      cases operand st x <;> simp only <;> try rfl
      rename_i s g o
      cases blkOf st s g with
      | none => rfl
      | some cells =>
       simp only [qO2]
       split
       ·cases aSlice j.size (.msl s g j.size o n) (lo.map (operand st)) (hi.map (operand st)) <;> rfl
       ·rfl
  ·rfl
 case extract x k =>
  simp only [exOp, denOp, opX_eq, zch]
  cases operand st x <;> simp only <;> try rfl
  rename_i vs
  cases vs[k]? <;> rfl
 case call c =>
  simp only [exOp, denOp]
  cases c.callee <;> simp only <;> try rfl
  ·simp only [opX_eq, zpg, joinX, callX_eq]
   rename_i f
   cases operand st f <;> simp only <;> try rfl
   ·rename_i g captured
    cases K.hp.contains d
    ·cases (c.args.toList.map (operand st) ++ captured).all (okRead (aget d K.reads)) <;> simp only <;> try rfl
     cases K.ro.contains d
     ·rfl
     ·simp only [roX_eq]; rfl
    ·cases K.ro.contains d <;> rfl
   ·simp only [yK, yX_eq]
    cases K.hp.contains d <;> rfl
  ·rename_i b
   simp only [zpg, builtinK]
   cases K.hp.contains d && isAppend b
   ·simp only [zj9]
    cases isAppend b && !(c.args.toList.map (operand st)).all (okRead (aget d K.reads)) <;> rfl
   ·simp only [shortX_eq, zj9, if_true]
    cases shorten st (c.args.toList.map (operand st)) <;> rfl
 case makeMap t h =>
  cases h with
  | some x => simp only [exOp, zch]
  | none =>
   simp only [exOp, denOp, zch, keyX, ze3]
   cases mapTy L t <;> rfl
 case lookup t x ix ok =>
  simp only [exOp, denOp, zch, tiX_eq, opX_eq, mapArgX_eq]
  cases okMap (aget d K.reads) (operand st x)
  ·rfl
  simp only [Bool.not_true, Bool.false_eq_true, if_false]
  cases mapTy L t with
  | none => rfl
  | some q =>
   obtain ⟨kt, e⟩ := q
   simp only [qO2, qO3]
   cases L e with
   | none => rfl
   | some j =>
    simp only [qO2]
    cases mapArg st (operand st x) with
    | none => rfl
    | some p =>
     obtain ⟨ks, vs⟩ := p
     simp only [qO2]
     cases mlook L kt j.zeroAV (operand st ix) ks vs with
     | none => rfl
     | some r => obtain ⟨v, is⟩ := r; cases ok <;> rfl
 case mapUpdate t x k v =>
  simp only [exOp, denOp, zch, opX_eq]
  cases mapTy L t with
  | none => rfl
  | some q =>
   obtain ⟨kt, e⟩ := q
   simp only [qO2, qO3]
   cases operand st x <;> simp only <;> try rfl
   rename_i s g
   simp only [zpb, chk, zce]
   cases mapOf st s g with
   | none => rfl
   | some p =>
    obtain ⟨ks, vs⟩ := p
    simp only [qO2]
    split
    ·cases mput L kt (operand st k) (operand st v) ks vs <;> rfl
    ·rfl
 case makeFunc fn first captured =>
  simp only [exOp, denOp, zpg]
  cases fn <;> simp only <;> try rfl
  rcases beq_tf first.size 0 with ⟨h, e⟩ | ⟨h, e⟩
  ·simp only [h, if_pos e]
   cases (captured.toList.map (operand st)).all AV.isRef <;> rfl
  ·simp only [h, if_neg e]; rfl
 all_goals
  simp only [exOp, zch]
def exOps (L : Nat → Option TI) (K : Ann) (Γ : Oracle) (ops : List Oper) : List Oper → St → (St → Ans) → Ans
 | [], st, κ => κ st
 | ⟨d, op, ty, _, _, g⟩ :: l, st, κ => match Nat.blt (d.getD 0) K.nt with
  | false => none
  | true => match g with
   | none => exOp L K Γ st (d.getD 0) ty op fun v st' => putX st' d v fun s => exOps L K Γ ops l s κ
   | some (j, want) => match (ops[j]?).bind (·.dst) with
    | none => none
    | some d0 => match st with
     | ⟨env, heap, next, tag⟩ => agetX d0 env (fun v => match v with
      | .bool b => match want with
       | true => brX b (aputX d0 (.bool true) env fun env => exOp L K Γ ⟨env, heap, next, tag⟩ (d.getD 0) ty op fun v st' => putX st' d v fun s => exOps L K Γ ops l s κ) (aputX d0 (.bool false) env fun env => putX ⟨env, heap, next, tag⟩ d (.tup []) fun s => exOps L K Γ ops l s κ)
       | false => brX b (aputX d0 (.bool true) env fun env => putX ⟨env, heap, next, tag⟩ d (.tup []) fun s => exOps L K Γ ops l s κ) (aputX d0 (.bool false) env fun env => exOp L K Γ ⟨env, heap, next, tag⟩ (d.getD 0) ty op fun v st' => putX st' d v fun s => exOps L K Γ ops l s κ)
      | .tup [] => putX ⟨env, heap, next, tag⟩ d (.tup []) fun s => exOps L K Γ ops l s κ
      | _ => none) none
theorem exOps_eq (L : Nat → Option TI) (K : Ann) (Γ : Oracle) (ops l : List Oper) (st : St) (κ : St → Ans) : exOps L K Γ ops l st κ = (denOps L K Γ ops l st).bind κ := by
 induction l generalizing st κ with
 | nil => rfl
 | cons o l ih =>
  obtain ⟨d, op, ty, pos, after, g⟩ := o
  simp only [exOps, denOps, denOper]
  cases hb : Nat.blt (d.getD 0) K.nt with
  | false =>
   have : ¬ d.getD 0 < K.nt := fun h => by rw [Nat.blt, Nat.ble_eq_true_of_le h] at hb; cases hb
   rw [if_neg this]; rfl
  | true =>
   have : d.getD 0 < K.nt := Nat.le_of_ble_eq_true hb
   rw [if_pos this]
   cases g with
   | none =>
    simp only [runs, exOp_eq, zq5, ih]
    cases denOp L K Γ st (d.getD 0) ty op <;> rfl
   | some g =>
    obtain ⟨j, want⟩ := g
    simp only [runs]
    cases (ops[j]?).bind (·.dst) with
    | none => rfl
    | some d0 =>
     obtain ⟨env, heap, next, tag⟩ := st
     simp only [zc3]
     cases hv : aget d0 env with
     | none => rfl
     | some v =>
      cases v <;> simp only <;> try rfl
      ·rename_i b
       have hput : ∀ x, b = x → aput d0 (.bool x) env = env := fun x e => zd8 (e ▸ hv)
       cases want <;> cases b <;> simp only [brX, zd4, hput _ rfl, exOp_eq, zq5, ih] <;>
        first
         | (cases denOp L K Γ ⟨env, heap, next, tag⟩ (d.getD 0) ty op <;> rfl)
         | rfl
      ·rename_i vs
       cases vs
       ·simp only [zq5, ih]; rfl
       ·rfl
noncomputable def loopX (F : Fx) (a : Code) (st : St) (κ : Ex → St → Ans) : Ans := (loopOf F a st).bind fun r => κ r.1 r.2
def regK (F : Fx) (ops : List Oper) (κ : Ex → St → Ans) (s : St) : Ans := tidyX F.K.cross ops s fun s => κ .normal s
def seqK (f : St → (Ex → St → Ans) → Ans) (κ : Ex → St → Ans) (e : Ex) (s : St) : Ans := match e with
 | .normal => f s κ
 | .exit j => κ (.exit j) s
 | .ret => κ .ret s
def blkK (id : Nat) (κ : Ex → St → Ans) (e : Ex) (s : St) : Ans := match e with
 | .exit j => match Nat.beq j id with
  | true => κ .normal s
  | false => κ (.exit j) s
 | .normal => κ .normal s
 | .ret => κ .ret s
noncomputable def ex (F : Fx) : Code → St → (Ex → St → Ans) → Ans
 | .skip, st, κ => κ .normal st
 | .region _ ops _, st, κ => exOps F.L F.K F.Γ ops.toList ops.toList st (regK F ops.toList κ)
 | .seq a b, st, κ => ex F a st (seqK (fun s κ => ex F b s κ) κ)
 | .cond c a b, st, κ => opX st c fun v => match v with
  | .bool x => brX x (ex F a st κ) (ex F b st κ)
  | _ => none
 | .block id a, st, κ => ex F a st (blkK id κ)
 | .loop a, st, κ => loopX F a st κ
 | .rangeFunc g ps a b, st, κ => (den loopω F.L F.K F.Γ (.rangeFunc g ps a b) st).bind fun r => κ r.1 r.2
 | .exit id, st, κ => κ (.exit id) st
 | .ret, st, κ => κ .ret st
 | _, _, _ => none
theorem ex_eq (F : Fx) (c : Code) (st : St) (κ : Ex → St → Ans) : ex F c st κ = (den loopω F.L F.K F.Γ c st).bind fun r => κ r.1 r.2 := by
 induction c generalizing st κ
 case skip => rfl
 case region id ops draw =>
  simp only [ex, den, exOps_eq, tidyX_eq, regK]
  cases denOps F.L F.K F.Γ ops.toList ops.toList st with
  | none => rfl
  | some s => simp only [qO2, Option.map_some, regK, tidyX_eq]
 case seq a b iha ihb =>
  simp only [ex, den, iha, seqK]
  cases den loopω F.L F.K F.Γ a st with
  | none => rfl
  | some p =>
   obtain ⟨e, s⟩ := p
   cases e with
   | normal => simp only [qO2, ihb]
   | _ => rfl
 case cond c a b iha ihb =>
  simp only [ex, den, opX_eq, iha, ihb]
  cases operand st c <;> simp only <;> try rfl
  rename_i x
  cases x <;> simp [brX]
 case block id a iha =>
  simp only [ex, den, iha, blkK]
  cases den loopω F.L F.K F.Γ a st with
  | none => rfl
  | some p =>
   obtain ⟨e, s⟩ := p
   cases e with
   | exit j =>
    simp only [qO2]
    rcases beq_tf j id with ⟨h, e⟩ | ⟨h, e⟩
    ·simp only [h, if_pos e]; rfl
    ·simp only [h, if_neg e]; rfl
   | _ => rfl
 case loop a iha => rfl
 case exit => rfl
 case ret => rfl
 all_goals rfl
noncomputable def headX (F : Fx) (a : Code) (st : St) (κ : Ex → St → Ans) : Ans := ex F a st (seqK (loopX F a) κ)
def pickX {α : Type} : List Nat → List (Nat × α) → (List (Nat × α) → Ans) → Ans
 | [], _, κ => κ []
 | k :: ks, l, κ => agetX k l (fun v => pickX ks l fun r => κ ((k, v) :: r)) (pickX ks l κ)
theorem pickX_eq {α : Type} (ks : List Nat) (l : List (Nat × α)) (κ : List (Nat × α) → Ans) : pickX ks l κ = κ (ks.filterMap fun k => (aget k l).map (k, ·)) := by
 induction ks generalizing κ with
 | nil => rfl
 | cons k ks ih =>
  simp only [pickX, zc3, ih, List.filterMap_cons]
  cases aget k l <;> rfl
def insX (p : Nat × Blk) : List (Nat × Blk) → (List (Nat × Blk) → Ans) → Ans
 | [], κ => κ [p]
 | q :: l, κ => match Nat.ble p.1 q.1 with
  | true => κ (p :: q :: l)
  | false => insX p l fun r => κ (q :: r)
theorem insX_eq (p : Nat × Blk) (l : List (Nat × Blk)) (κ : List (Nat × Blk) → Ans) : insX p l κ = κ (insK p l) := by
 induction l generalizing κ with
 | nil => rfl
 | cons q l ih =>
  simp only [insX, insK, ih]
  cases Nat.ble p.1 q.1 <;> rfl
def restX (sites : List Nat) : List (Nat × Blk) → (List (Nat × Blk) → Ans) → Ans
 | [], κ => κ []
 | (k, b) :: l, κ => match keepKey sites k with
  | true => restX sites l fun r => insX (k, b) r κ
  | false => restX sites l κ
theorem restX_eq (sites : List Nat) (l : List (Nat × Blk)) (κ : List (Nat × Blk) → Ans) : restX sites l κ = κ (sortK (l.filter fun p => keepKey sites p.1)) := by
 induction l generalizing κ with
 | nil => rfl
 | cons p l ih =>
  obtain ⟨k, b⟩ := p
  simp only [restX, ih, List.filter_cons, insX_eq]
  cases keepKey sites k <;> rfl
def pickTX {α : Type} : List Nat → List (Nat × α) → List (Nat × α) → (List (Nat × α) → Ans) → Ans
 | [], _, base, κ => κ base
 | k :: ks, l, base, κ => agetX k l (fun v => pickTX ks l base fun r => κ ((k, v) :: r)) (pickTX ks l base κ)
theorem pickTX_eq {α : Type} (ks : List Nat) (l base : List (Nat × α)) (κ : List (Nat × α) → Ans) : pickTX ks l base κ = κ ((ks.filterMap fun k => (aget k l).map (k, ·)) ++ base) := by
 induction ks generalizing κ with
 | nil => rfl
 | cons k ks ih =>
  simp only [pickTX, zc3, ih, List.filterMap_cons]
  cases aget k l <;> rfl
def trimX (h : Option (Nat × List Nat × List Nat)) (st : St) (κ : St → Ans) : Ans := match h, st with
 | some (_, slots, sites), ⟨env, heap, next, tag⟩ => pickX slots env fun e => restX sites heap fun base => pickTX sites heap base fun h => κ ⟨e, h, next, tag⟩
 | none, st => κ st
theorem trimX_eq (h : Option (Nat × List Nat × List Nat)) (st : St) (κ : St → Ans) : trimX h st κ = κ (trim h st) := by
 cases h with
 | none => rfl
 | some p => obtain ⟨_, slots, sites⟩ := p; cases st; simp only [trimX, trim, pickX_eq, pickTX_eq, restX_eq]
theorem loopX_head {F : Fx} {a : Code} {st : St} {κ : Ex → St → Ans} : loopX F a st κ = trimX (F.K.heads.find? (·.1 == firstRegion a)) st fun s => headX F a s κ := by
 rw [trimX_eq, headX, ex_eq, loopX, loopOf, loopω_eq]
 simp only [seqK]
 cases den loopω F.L F.K F.Γ a (trim (F.K.heads.find? (·.1 == firstRegion a)) st) with
 | none => rfl
 | some p => obtain ⟨e, s⟩ := p; cases e <;> rfl
theorem headX_ind {F : Fx} {a : Code} {κ : Ex → St → Ans} {X : Type} (S : X → St) (out : X → Ans) (μ : X → Nat) (I : X → Prop)
  (h : ∀ x, I x → (∀ y, I y → μ y < μ x → headX F a (S y) κ = out y) → ex F a (S x) (seqK (loopX F a) κ) = out x) (x : X) (hx : I x) : headX F a (S x) κ = out x := by
 generalize hn : μ x = n
 induction n using Nat.strongRecOn generalizing x with
 | ind n ih =>
  subst hn
  exact h x hx fun y hy hlt => ih (μ y) hlt y hy rfl
theorem zad {F : Fx} {a : Code} {κ : Ex → St → Ans} {st : St} : headX F a st κ = ex F a st (seqK (loopX F a) κ) := rfl
theorem zf7 {F : Fx} {a : Code} {κ : Ex → St → Ans} (S : Nat → St) (n : Nat) (out : Ans)
  (h : ∀ k, k < n → ex F a (S k) (seqK (loopX F a) κ) = headX F a (S (k + 1)) κ)
  (hn : ex F a (S n) (seqK (loopX F a) κ) = out) (k : Nat) (hk : k ≤ n) : headX F a (S k) κ = out := by
 obtain ⟨m, rfl⟩ : ∃ m, n = k + m := ⟨n - k, by omega⟩
 clear hk
 induction m generalizing k with
 | zero => exact hn
 | succ m ih =>
  rw [zad, h k (by omega)]
  refine ih (k + 1) (fun j hj => h j (by omega)) ?_
  rw [show k + 1 + m = k + (m + 1) from by omega]
  exact hn
theorem zcr {F : Fx} {a : Code} {κ : Ex → St → Ans} (S : Nat → Nat → St) (n : Nat) (out : Ans)
  (h : ∀ k nx, k < n → ∃ nx', ex F a (S k nx) (seqK (loopX F a) κ) = headX F a (S (k + 1) nx') κ)
  (hn : ∀ nx, ex F a (S n nx) (seqK (loopX F a) κ) = out) (k nx : Nat) (hk : k ≤ n) : headX F a (S k nx) κ = out := by
 obtain ⟨m, rfl⟩ : ∃ m, n = k + m := ⟨n - k, by omega⟩
 clear hk
 induction m generalizing k nx with
 | zero => exact hn nx
 | succ m ih =>
  obtain ⟨nx', e⟩ := h k nx (by omega)
  rw [zad, e]
  refine ih (k + 1) nx' (fun j nx hj => h j nx (by omega)) ?_
  rw [show k + 1 + m = k + (m + 1) from by omega]
  exact hn
theorem ze0 {F : Fx} {a : Code} {κ : Ex → St → Ans} {α : Type} (S : Nat → Nat → St) (l : List α) (out : List α → Ans)
  (h : ∀ k nx (hk : k < l.length), (∀ nx', headX F a (S (k + 1) nx') κ = out (l.drop (k + 1))) → ex F a (S k nx) (seqK (loopX F a) κ) = out (l[k] :: l.drop (k + 1)))
  (hn : ∀ nx, ex F a (S l.length nx) (seqK (loopX F a) κ) = out []) (nx : Nat) : headX F a (S 0 nx) κ = out l := by
 have H : ∀ m k nx, k + m = l.length → headX F a (S k nx) κ = out (l.drop k) := by
  intro m
  induction m with
  | zero =>
   intro k nx hk
   rw [show k = l.length from by omega, zad, hn, List.drop_length]
  | succ m ih =>
   intro k nx hk
   rw [zad, h k nx (by omega) fun nx' => ih (k + 1) nx' (by omega), ← List.drop_eq_getElem_cons]
 simpa using H l.length 0 nx (by omega)
theorem zds {F : Fx} {a : Code} {κ : Ex → St → Ans} {α X : Type} (I : Nat → X → Prop) (S : Nat → X → St) (l : List α) (out : List α → X → Ans)
  (h : ∀ k x (hk : k < l.length), I k x → (∀ y, I (k + 1) y → headX F a (S (k + 1) y) κ = out (l.drop (k + 1)) y) → ex F a (S k x) (seqK (loopX F a) κ) = out (l[k] :: l.drop (k + 1)) x)
  (hn : ∀ x, I l.length x → ex F a (S l.length x) (seqK (loopX F a) κ) = out [] x) (x : X) (hx : I 0 x) : headX F a (S 0 x) κ = out l x := by
 have H : ∀ m k x, k + m = l.length → I k x → headX F a (S k x) κ = out (l.drop k) x := by
  intro m
  induction m with
  | zero =>
   intro k x hk hx
   have e : k = l.length := by omega
   subst e
   rw [zad, hn x hx, List.drop_length]
  | succ m ih =>
   intro k x hk hx
   rw [zad, h k x (by omega) hx fun y hy => ih (k + 1) y (by omega) hy, ← List.drop_eq_getElem_cons]
 simpa using H l.length 0 x (by omega) hx
theorem zdn {F : Fx} {a : Code} {κ : Ex → St → Ans} {X : Type} (I : Nat → X → Prop) (S : Nat → X → St) (n : Nat) (out : Ans)
  (h : ∀ k x, k < n → I k x → (∀ y, I (k + 1) y → headX F a (S (k + 1) y) κ = out) → ex F a (S k x) (seqK (loopX F a) κ) = out)
  (hn : ∀ x, I n x → ex F a (S n x) (seqK (loopX F a) κ) = out) (x : X) (hx : I 0 x) : headX F a (S 0 x) κ = out := by
 have H : ∀ m k x, k + m = n → I k x → headX F a (S k x) κ = out := by
  intro m
  induction m with
  | zero =>
   intro k x hk hx
   have e : k = n := by omega
   subst e
   rw [zad, hn x hx]
  | succ m ih =>
   intro k x hk hx
   rw [zad, h k x (by omega) hx fun y hy => ih (k + 1) y (by omega) hy]
 exact H n 0 x (by omega) hx
structure Boxed (Q : Prop) : Prop where
 out : Q
theorem goal_join {Q R : Prop} (f : Boxed Q → R) (q : Q) : R := f ⟨q⟩
def getResX (L : Nat → Option TI) (st : St) : List ResultVar → (List AV → Ans) → Ans
 | [], κ => κ []
 | .tmp k :: l, κ => opX st (.tmp k) fun v => getResX L st l fun r => κ (v :: r)
 | .cell k t :: l, κ => tiX L t fun i => opX st (.tmp k) fun p => ldX i st p fun v => getResX L st l fun r => κ (v :: r)
theorem getResX_eq (L : Nat → Option TI) (st : St) (l : List ResultVar) (κ : List AV → Ans) : getResX L st l κ = (getAll L st l).bind κ := by
 induction l generalizing κ with
 | nil => rfl
 | cons x l ih =>
  cases x with
  | tmp k =>
   simp only [getResX, getAll, getRes, opX_eq, ih, operand, qO2]
   cases getAll L st l <;> rfl
  | cell k t =>
   simp only [getResX, getAll, getRes, tiX_eq, opX_eq, ldX_eq, ih, operand]
   cases L t with
   | none => rfl
   | some i =>
    simp only [qO2]
    cases aLoad i st ((aget k st.env).getD .junk) with
    | none => rfl
    | some v => simp only [qO2]; cases getAll L st l <;> rfl
def frSlX (np : Nat) (st : St) (v : AV) (κ : Nat → Nat → List AV → Nat → Ans) : Ans := match v with
 | .msl s g z o n => blkX st s g fun cells => chk (np ≤ s ∧ s < 1000000 ∧ o = 0 ∧ 0 < z) (chk (cells.length = n * z) (chk (cells.all AV.plain = true) (κ z n cells s)))
 | _ => none
theorem frSlX_eq (np : Nat) (st : St) (v : AV) (κ : Nat → Nat → List AV → Nat → Ans) : frSlX np st v κ = (freezeSl np st v).bind fun p => κ p.1 p.2.1 p.2.2.1 p.2.2.2 := by
 cases v <;> simp only [frSlX, freezeSl] <;> try rfl
 rename_i s g z o n
 simp only [zc6, chk]
 cases blkOf st s g with
 | none => rfl
 | some cells =>
  simp only [qO2, qO3]
  by_cases h1 : np ≤ s <;> by_cases h1' : s < 1000000 <;> by_cases h2 : o = 0 <;> by_cases h3 : 0 < z <;> by_cases h4 : cells.length = n * z <;> by_cases h5 : cells.all AV.plain = true <;> simp [h1, h1', h2, h3, h4, h5]
def frPl (v : AV) (a : Ans) (b : AV → Ans) : Ans := match v with
 | .nsl => a
 | c => b c
theorem frPl_ne {v : AV} {a : Ans} {b : AV → Ans} (h : v ≠ .nsl) : frPl v a b = b v := by cases v <;> first | rfl | exact absurd rfl h
def frAggX (np : Nat) (st : St) : List Nat → Nat → List AV → (List AV → List Nat → Ans) → Ans
 | [], _, cs, κ => chk (cs.all AV.plain = true) (κ cs [])
 | p :: ps, k, cs, κ => getX cs (p - k) fun c => takeX cs 0 (p - k) fun pre => normX (cs.drop (p - k + 1)) fun post => frPl c
  (chk (pre.all AV.plain = true) (frAggX np st ps (p + 1) post fun r ss => joinX pre (.nsl :: r) fun out => κ out ss))
  fun c => frSlX np st c fun z n cells s => chk (pre.all AV.plain = true) (frAggX np st ps (p + 1) post fun r ss => match ss.contains s with
   | false => joinX pre (.isl z n cells :: r) fun out => κ out (s :: ss)
   | true => none)
theorem frAggX_eq (np : Nat) (st : St) (ps : List Nat) (k : Nat) (cs : List AV) (κ : List AV → List Nat → Ans) : frAggX np st ps k cs κ = (freezeAgg np st ps k cs).bind fun p => κ p.1 p.2 := by
 induction ps generalizing k cs κ with
 | nil => simp only [frAggX, freezeAgg, chk]; split <;> rfl
 | cons p ps ih =>
  simp only [frAggX, getX, takeX, normX, joinX, chk, ih, List.drop_zero]
  cases hc : cs[p - k]? with
  | none => simp [freezeAgg, hc]
  | some v =>
   simp only
   by_cases hn : v = .nsl
   ·subst hn
    rw [zgs hc]
    simp only [frPl, qO3]
    cases freezeAgg np st ps (p + 1) (cs.drop (p - k + 1)) with
    | none => simp
    | some q => simp only [qO2]; split <;> rfl
   ·rw [zhw hc hn]
    rw [frPl_ne hn, frSlX_eq]
    cases freezeSl np st v with
    | none => rfl
    | some z =>
     obtain ⟨z, n, cells, s⟩ := z
     simp only [qO2, qO3]
     cases freezeAgg np st ps (p + 1) (cs.drop (p - k + 1)) with
     | none => simp
     | some q =>
      simp only [qO2]
      by_cases hp : (cs.take (p - k)).all AV.plain = true
      ·cases hs : q.2.contains s <;> simp [hp, hs]
      ·simp [hp]
def frOneX (np : Nat) (ps : List Nat) (st : St) (v : AV) (κ : AV → List Nat → Ans) : Ans := match v with
 | .agg cs => match ps with
  | [] => chk (cs.all AV.plain = true) (κ (.agg cs) [])
  | ps => frAggX np st ps 0 cs fun out ss => κ (.agg out) ss
 | .msl s g z o n => frSlX np st (.msl s g z o n) fun z n cells s => κ (.fsl z n cells) [s]
 | .fsl z n cells => κ (.fsl z n cells) [passed]
 | .err g => κ (.err g) []
 | v => match v.plain with
  | true => κ v []
  | false => none
theorem frOneX_eq (np : Nat) (ps : List Nat) (st : St) (v : AV) (κ : AV → List Nat → Ans) : frOneX np ps st v κ = (freezeOne np ps st v).bind fun p => κ p.1 p.2 := by
 cases v <;> simp only [frOneX, freezeOne, frSlX_eq] <;> try rfl
 ·rename_i s g z o n
  cases freezeSl np st (.msl s g z o n) <;> rfl
 ·rename_i cs
  cases ps with
  | nil => simp only [freezeAgg, chk]; split <;> rfl
  | cons p ps =>
   simp only [frAggX_eq]
   cases freezeAgg np st (p :: ps) 0 cs <;> rfl
def frAllX (np : Nat) (ps : List Nat) (st : St) : List AV → (List AV → List Nat → Ans) → Ans
 | [], κ => κ [] []
 | v :: vs, κ => frOneX np ps st v fun x s => frAllX np ps st vs fun xs ss => match s.all (fun k => !ss.contains k) with
  | true => κ (x :: xs) (s ++ ss)
  | false => none
theorem frAllX_eq (np : Nat) (ps : List Nat) (st : St) (vs : List AV) (κ : List AV → List Nat → Ans) : frAllX np ps st vs κ = (freezeAll np ps st vs).bind fun p => κ p.1 p.2 := by
 induction vs generalizing κ with
 | nil => rfl
 | cons v vs ih =>
  simp only [frAllX, freezeAll, frOneX_eq, ih]
  cases freezeOne np ps st v with
  | none => rfl
  | some p =>
   obtain ⟨x, s⟩ := p
   simp only [qO2, qO3]
   cases freezeAll np ps st vs with
   | none => rfl
   | some q =>
    obtain ⟨xs, ss⟩ := q
    simp only [qO2]
    cases s.all (fun k => !ss.contains k) <;> rfl
def outX (st : St) : Nat → List (Option (List AV)) → (List (Option (List AV)) → Ans) → Ans
 | _, [], κ => κ []
 | k, none :: l, κ => outX st (k + 1) l fun r => κ (none :: r)
 | k, some old :: l, κ => blkX st k (st.tag, 0) fun cells => chk (cells.length = old.length) (chk (cells.all AV.plain = true) (outX st (k + 1) l fun r => κ (some cells :: r)))
theorem outX_eq (st : St) (k : Nat) (l : List (Option (List AV))) (κ : List (Option (List AV)) → Ans) : outX st k l κ = (lentOut st k l).bind κ := by
 induction l generalizing k κ with
 | nil => rfl
 | cons x l ih =>
  cases x with
  | none =>
   simp only [outX, lentOut, ih]
   cases lentOut st (k + 1) l <;> rfl
  | some old =>
   simp only [outX, lentOut, zc6, chk, ih]
   cases blkOf st k (st.tag, 0) with
   | none => rfl
   | some cells =>
    simp only [qO2, qO3]
    cases lentOut st (k + 1) l with
    | none => simp
    | some r => by_cases h1 : cells.length = old.length <;> by_cases h2 : cells.all AV.plain = true <;> simp [h1, h2]
def endX (vs : List AV) (r : List (Option (List AV))) : Ans := match vs with
 | [v] => some (v, r)
 | vs => some (.tup vs, r)
theorem endX_eq (vs : List AV) (r : List (Option (List AV))) : endX vs r = some (oneOrTup vs, r) := by
 match vs with
 | [] => rfl
 | [_] => rfl
 | _ :: _ :: _ => rfl
def finX (F : Fx) (e : Ex) (st : St) : Ans := match e with
 | .exit _ => none
 | _ => getResX F.L st F.results fun gs => frAllX F.np F.frz st gs fun vs _ => outX st 0 F.lent fun r => endX vs r
theorem finX_eq (F : Fx) (e : Ex) (st : St) : finX F e st = fin F e st := by
 cases e <;> simp only [finX, fin, getResX_eq, frAllX_eq, outX_eq, endX_eq]
theorem za5 {L : Nat → Option TI} {T : Nat → Option Entry} {f : Nat} {a : AFn} (h : T f = some (.code a)) {tag : Nat} {args : List AV} {lent : List (Option (List AV))} (h1 : args.length = a.np) (h2 : lent.length = a.np) :
  callω L T f tag args lent = ex ⟨L, a.ann, callω L T, a.np, a.frz, a.results, lent⟩ a.body ⟨argEnv 0 args, lentHeap tag 0 lent, 1, tag⟩ (finX ⟨L, a.ann, callω L T, a.np, a.frz, a.results, lent⟩) := by
 rw [call_go h h1 h2, ex_eq]
 simp only [go]
 congr 1
 funext r
 rw [ret_nil, finX_eq]
def finH (L : Nat → Option TI) (rs : List ResultVar) (tag : Nat) (args : List AV) (e : Ex) (st : St) : Ans := match e with
 | .exit _ => none
 | _ => do
  let gs ← getAll L st rs
  let pk ← visit none .all st (tag, 0) 200 (rootsAt 0 args ++ rootsAt 400000 gs) []
  if pkOk pk && st.tag == tag && (rootKeys args).all (fun k => look k (tag, 0) pk == some (k, (tag, 0))) then
   let r ← packed .plain st pk pk
   some (oneOrTup (gs.map (ren .plain pk)), r)
  else none
def finMX (L : Nat → Option TI) (mat : List (Nat × Nat × Nat × Nat)) (rs : List ResultVar) (tag : Nat) (args : List AV) (e : Ex) (st : St) : Ans := match e with
 | .exit _ => none
 | _ => finM L mat rs tag args st
theorem zoe {L : Nat → Option TI} {rs : List ResultVar} {tag : Nat} {args : List AV} {e : Ex} {st : St} : finMX L [] rs tag args e st = finH L rs tag args e st := by cases e <;> rfl
theorem finMX_mat {L : Nat → Option TI} {mat : List (Nat × Nat × Nat × Nat)} {rs : List ResultVar} {tag : Nat} {args gs : List AV} {e : Ex} {st st' : St} (h0 : getAll L st rs = some gs) (h1 : matAll (args ++ gs) mat st = st') : finMX L mat rs tag args e st = finH L rs tag args e st' := by
 subst h1
 cases mat with
 | nil => exact zoe
 | cons x l => cases e <;> simp only [finMX, finM, h0, qO2] <;> rfl
theorem zom {a b : List (Nat × Blk)} (h : ∀ κ' : List (Nat × Blk) → Ans, κ' a = κ' b) : a = b := by
 classical
 have h1 := h fun x => if x = b then some (.junk, []) else none
 simp only [if_true] at h1
 split at h1
 ·assumption
 ·cases h1
theorem mat_nil {vs : List AV} {s : St} : matAll vs [] s = s := rfl
theorem set_setR {v : AV} : ∀ {cells : List AV} {o : Nat} {u : AV}, cells[o]? = some u → cells.set o v = setR cells o [v]
 | [], o, u, h => by simp at h
 | c :: cells, 0, u, h => by simp [setR]
 | c :: cells, o + 1, u, h => by
  simp only [List.getElem?_cons_succ] at h
  rw [List.set_cons_succ, set_setR h]
  simp [setR]
theorem mat_hit {vs : List AV} {j rel sz key : Nat} {l : List (Nat × Nat × Nat × Nat)} {env : List (Nat × AV)} {heap heap1 heap2 : List (Nat × Blk)} {next tag k o : Nat} {g g' : Nat × Nat} {cells cells' : List AV} {s : St}
  (hv : vs[j]? = some (.ref k g o)) (hb : aget k heap = some ⟨g', cells⟩) (hk : (Nat.beq key k || isMapKey k || isMapKey key) = false) (hc : cells[o + rel]? = some .nsl) (hs : setR cells (o + rel) [.msl key (tag, next) sz 0 0] = cells')
  (h1 : ∀ κ' : List (Nat × Blk) → Ans, aputX key ⟨(tag, next), []⟩ heap κ' = κ' heap1) (h2 : ∀ κ' : List (Nat × Blk) → Ans, aputX k ⟨g', cells'⟩ heap1 κ' = κ' heap2) (hr : matAll vs l ⟨env, heap2, next + 1, tag⟩ = s) : matAll vs ((j, rel, sz, key) :: l) ⟨env, heap, next, tag⟩ = s := by
 have e1 : aput key ⟨(tag, next), []⟩ heap = heap1 := by
  have := fun κ' => (zd4 key (⟨(tag, next), []⟩ : Blk) heap κ').symm.trans (h1 κ')
  exact zom this
 have e2 : aput k ⟨g', cells'⟩ heap1 = heap2 := by
  have := fun κ' => (zd4 k (⟨g', cells'⟩ : Blk) heap1 κ').symm.trans (h2 κ')
  exact zom this
 have hne : key ≠ k := fun e => by rw [e, Nat.beq_refl] at hk; simp at hk
 have e3 : aget k heap1 = some ⟨g', cells⟩ := by rw [← e1, zan, if_neg hne, hb]
 rw [← hr]
 show matAll vs l (matOne vs _ _) = _
 congr 1
 simp only [matOne, hv, hb, hc, hk, newBlk, e1, putCells, e3, set_setR hc, hs, e2]
 simp
def nslB : AV → Bool
 | .nsl => true
 | _ => false
theorem mat_miss {vs : List AV} {j rel sz key : Nat} {l : List (Nat × Nat × Nat × Nat)} {env : List (Nat × AV)} {heap : List (Nat × Blk)} {next tag k o : Nat} {g g' : Nat × Nat} {cells : List AV} {s : St} {v : AV}
  (hv : vs[j]? = some (.ref k g o)) (hb : aget k heap = some ⟨g', cells⟩) (hc : cells[o + rel]? = some v) (hn : nslB v = false) (hr : matAll vs l ⟨env, heap, next, tag⟩ = s) : matAll vs ((j, rel, sz, key) :: l) ⟨env, heap, next, tag⟩ = s := by
 rw [← hr]
 show matAll vs l (matOne vs _ _) = _
 congr 1
 cases v <;> simp only [nslB, Bool.true_eq_false] at hn <;> simp only [matOne, hv, hb, hc]
theorem call_exh {L : Nat → Option TI} {T : Nat → Option Entry} {f : Nat} {a : AFn} (h : T f = some (.hcode a)) {tag : Nat} {args : List AV} {lent : List (Option (List AV))} (h1 : args.length = a.np) :
  callω L T f tag (.mapd [] [] :: args) lent = ex ⟨L, a.ann, callω L T, a.np, a.frz, a.results, []⟩ a.body ⟨argEnv 0 args, hHeap tag lent, 1, tag⟩ (finMX L a.ann.mat a.results tag args) := by
 rw [zpd h, ex_eq, runFnH, if_pos h1]
 cases den loopω L a.ann (callω L T) a.body ⟨argEnv 0 args, hHeap tag lent, 1, tag⟩ with
 | none => rfl
 | some p =>
  obtain ⟨e, s⟩ := p
  cases e <;> rfl
section
variable {F : Fx} {κ : Ex → St → Ans} {st : St} {r : Ans}
theorem chk_ok {c : Prop} {_ : Decidable c} {a : Ans} (h : c) : chk c a = a := if_pos h
theorem br_yes {p : Prop} {_ : Decidable p} {a b : Ans} (h : p) : brX (decide p) a b = a := by rw [decide_eq_true h]; rfl
theorem br_no {p : Prop} {_ : Decidable p} {a b : Ans} (h : ¬ p) : brX (decide p) a b = b := by rw [decide_eq_false h]; rfl
theorem br_tt {a b : Ans} : brX true a b = a := rfl
theorem br_ff {a b : Ans} : brX false a b = b := rfl
theorem br_t {x : Bool} {a b : Ans} (h : x = true) : brX x a b = a := by rw [h]; rfl
theorem br_f {x : Bool} {a b : Ans} (h : x = false) : brX x a b = b := by rw [h]; rfl
theorem get_some {l : List AV} {o : Nat} {κ : AV → Ans} {v : AV} (h : l[o]? = some v) : getX l o κ = κ v := by rw [getX, h]
theorem str_some {s : ByteArray} {o : Nat} {κ : AV → Ans} {b : UInt8} (h : s[o]? = some b) : strX s o κ = κ (.int .u8 b.toNat) := by rw [strX, h]
theorem set_eq {cells vs c : List AV} {o : Nat} {κ : List AV → Ans} (h : setR cells o vs = c) : setX cells o vs κ = κ c := by rw [setX, h]
theorem take_eq {cells c : List AV} {o n : Nat} {κ : List AV → Ans} (h : (cells.drop o).take n = c) : takeX cells o n κ = κ c := by rw [takeX, h]
theorem zp3 {l c : List AV} {κ : List AV → Ans} (h : l = c) : normX l κ = κ c := by rw [normX, h]
theorem nat_eq {n : Int} {m : Nat} {κ : Nat → Ans} (h : n.toNat = m) : natX n κ = κ m := by rw [natX, h]
theorem byt_eq {cells : List AV} {xs : List Int} {κ : List Int → Ans} (h : u8s cells = some xs) : bytX cells κ = κ xs := by rw [bytX, h]
theorem zq2 (xs : List Int) : u8s (xs.map (.int .u8)) = some xs := by
 induction xs with
 | nil => rfl
 | cons x xs ih => simp only [List.map_cons, u8s, ih, Option.map_some]
theorem zq8 {a b c : List AV} {κ : List AV → Ans} (h : a ++ b = c) : joinX a b κ = κ c := by rw [joinX, h]
theorem ans_eq {v v' : AV} {l l' : List (Option (List AV))} (h1 : v = v') (h2 : l = l') : (some (v, l) : Ans) = some (v', l') := by rw [h1, h2]
theorem fill_nil {place : Nat → Option (Nat × Nat)} {cells : List AV} {κ : List AV → Ans} : fillX place cells [] κ = κ cells := rfl
theorem fill_cons {place : Nat → Option (Nat × Nat)} {cells vs c : List AV} {i off size : Nat} {v : AV} {rest : List (Nat × AV)} {κ : List AV → Ans} (hp : place i = some (off, size)) (hs : v.solid = true) (hv : ∀ κ', cellsX v κ' = κ' vs)
  (h1 : vs.length = size) (h2 : off + size ≤ cells.length) (hc : setR cells off vs = c) : fillX place cells ((i, v) :: rest) κ = fillX place c rest κ := by
 simp only [fillX, hp, hs, hv, chk, setX, h1, h2, hc, if_true]
theorem fill_one {place : Nat → Option (Nat × Nat)} {cells vs c : List AV} {i off size : Nat} {v : AV} {rest : List (Nat × AV)} {κ : List AV → Ans} (hp : place i = some (off, size)) (hs : v.solid = true) (hv : ∀ κ', cellsX v κ' = κ' vs)
  (h : (Nat.beq vs.length size && Nat.ble (off + size) cells.length) = true) (hc : setR cells off vs = c) : fillX place cells ((i, v) :: rest) κ = fillX place c rest κ := by
 rw [qO5] at h
 exact fill_cons hp hs hv (Nat.eq_of_beq_eq_true h.1) (Nat.le_of_ble_eq_true h.2) hc
def easyV (v : AV) : Option AV := match v with
 | .ref _ _ _ | .msl _ _ _ _ _ | .tup _ | .mapd _ _ | .yld _ _ => none
 | .fsl z n c => some (.isl z n c)
 | v => some v
def cellsAt (s : Nat) (heap : List (Nat × Blk)) : Option Blk := match isMapKey s with
 | true => none
 | false => aget s heap
theorem zdi {s : Nat} {heap : List (Nat × Blk)} {b : Blk} (h : cellsAt s heap = some b) : isMapKey s = false ∧ aget s heap = some b := by
 unfold cellsAt at h
 cases hk : isMapKey s with
 | true => rw [hk] at h; cases h
 | false => rw [hk] at h; exact ⟨rfl, h⟩
theorem lend_nil {L : Nat → Option TI} {st : St} {j : Nat} {ts : List Nat} {κ : List AV → List (Option (List AV)) → List (Option (Nat × Nat × Nat)) → Ans} : lendX L st j [] ts κ = κ [] [] [] := rfl
theorem lend_easy {L : Nat → Option TI} {st : St} {j : Nat} {v v' : AV} {vs : List AV} {ts : List Nat} {κ : List AV → List (Option (List AV)) → List (Option (Nat × Nat × Nat)) → Ans} (h : easyV v = some v') :
  lendX L st j (v :: vs) ts κ = lendX L st (j + 1) vs (ts.drop 1) fun a b p => κ (v' :: a) (none :: b) (none :: p) := by
 cases v <;> simp only [easyV, qO1, reduceCtorEq] at h <;> subst h <;> rfl
theorem lend_ref {L : Nat → Option TI} {env : List (Nat × AV)} {heap : List (Nat × Blk)} {next tag j s o n : Nat} {g : Nat × Nat} {cells c : List AV} {vs : List AV} {ts : List Nat} {κ : List AV → List (Option (List AV)) → List (Option (Nat × Nat × Nat)) → Ans}
  (hb : cellsAt s heap = some ⟨g, cells⟩) (hn : lendSize L (cells.length - o) ts.head? = some n) (hle : o + n ≤ cells.length) (hc : (cells.drop o).take n = c) :
  lendX L ⟨env, heap, next, tag⟩ j (.ref s g o :: vs) ts κ = lendX L ⟨env, heap, next, tag⟩ (j + 1) vs (ts.drop 1) fun a b p => κ (.ref j (tag + 1, 0) 0 :: a) (some c :: b) (some (s, o, n) :: p) := by
 obtain ⟨hk, hb⟩ := zdi hb
 simp only [lendX, zc6, blkOf, hk, Bool.false_eq_true, if_false, hb, if_true, qO2, zch, hn, chk, hle, takeX, hc]
theorem lend_msl {L : Nat → Option TI} {env : List (Nat × AV)} {heap : List (Nat × Blk)} {next tag j s z o n : Nat} {g : Nat × Nat} {cells c : List AV} {vs : List AV} {ts : List Nat} {κ : List AV → List (Option (List AV)) → List (Option (Nat × Nat × Nat)) → Ans}
  (hb : cellsAt s heap = some ⟨g, cells⟩) (hle : o + n * z ≤ cells.length) (hc : (cells.drop o).take (n * z) = c) :
  lendX L ⟨env, heap, next, tag⟩ j (.msl s g z o n :: vs) ts κ = lendX L ⟨env, heap, next, tag⟩ (j + 1) vs (ts.drop 1) fun a b p => κ (.isl z n c :: a) (none :: b) (none :: p) := by
 obtain ⟨hk, hb⟩ := zdi hb
 simp only [lendX, zc6, blkOf, hk, Bool.false_eq_true, if_false, hb, if_true, qO2, chk, hle, takeX, hc]
theorem parts_nil {st : St} {κ : List (Nat × AV) → Ans} : partsX st [] κ = κ [] := rfl
theorem parts_cons {st : St} {i : Nat} {x : Operand} {l : List (Nat × Operand)} {v : AV} {κ : List (Nat × AV) → Ans} (h : ∀ κ', opX st x κ' = κ' v) : partsX st ((i, x) :: l) κ = partsX st l fun r => κ ((i, v) :: r) := h _
theorem opsl_nil {st : St} {κ : List AV → Ans} : opsX st [] κ = κ [] := rfl
theorem opsl_cons {st : St} {x : Operand} {l : List Operand} {v : AV} {κ : List AV → Ans} (h : ∀ κ', opX st x κ' = κ' v) : opsX st (x :: l) κ = opsX st l fun r => κ (v :: r) := h _
theorem zoq (cs : List AV) : setR cs 0 [] = cs := by simp [setR]
theorem zkf (c v : AV) (cs vs : List AV) : setR (c :: cs) 0 (v :: vs) = v :: setR cs 0 vs := by simp [setR, Nat.add_comm]
theorem nfs : type_of% (And.intro @zoq <| And.intro @zkf <| And.intro @zau <| And.intro @zbm <| And.intro @zb6 <| And.intro (@List.drop_succ_cons AV) <| And.intro (@List.drop_zero AV) <| And.intro (@List.drop_nil AV) <| And.intro (@List.cons_append AV) <| And.intro (@List.nil_append AV) <| And.intro (@List.append_nil AV) <| And.intro (@List.take_succ_cons AV) <| And.intro (@List.take_zero AV) <| And.intro (@List.take_nil AV) <| And.intro (@List.length_cons AV) <| And.intro (@List.length_nil AV) <| And.intro Nat.zero_add <| And.intro Nat.zero_mul <| And.intro Int.toNat_natCast Int.toNat_zero) :=
 And.intro @zoq <| And.intro @zkf <| And.intro @zau <| And.intro @zbm <| And.intro @zb6 <| And.intro (@List.drop_succ_cons AV) <| And.intro (@List.drop_zero AV) <| And.intro (@List.drop_nil AV) <| And.intro (@List.cons_append AV) <| And.intro (@List.nil_append AV) <| And.intro (@List.append_nil AV) <| And.intro (@List.take_succ_cons AV) <| And.intro (@List.take_zero AV) <| And.intro (@List.take_nil AV) <| And.intro (@List.length_cons AV) <| And.intro (@List.length_nil AV) <| And.intro Nat.zero_add <| And.intro Nat.zero_mul <| And.intro Int.toNat_natCast Int.toNat_zero
section
variable {L : Nat → Option TI} {K : Ann} {Γ : Oracle} {st : St} {d ty t : Nat} {κ : AV → St → Ans}
theorem op_build_s {i : TI} {fs : List (Nat × Nat)} {ps : List (Nat × Operand)} (hL : L t = some i) (hd : i.desc = .strct fs) :
  exOp L K Γ st d ty (.build t ps.toArray) κ = partsX st ps fun pv => normX i.zero fun z => fillX (plX L fs) z pv fun cs => κ (.agg cs) st := by
 simp only [exOp, tiX, hL, hd]
theorem op_build_a {i j : TI} {n e : Nat} {ps : List (Nat × Operand)} (hL : L t = some i) (hd : i.desc = .arr n e) (hj : L e = some j) :
  exOp L K Γ st d ty (.build t ps.toArray) κ = partsX st ps fun pv => normX i.zero fun z => fillX (fun k => some (k * j.size, j.size)) z pv fun cs => κ (.agg cs) st := by
 simp only [exOp, tiX, hL, hd, hj]
theorem zme {i e : TI} {x n : Nat} {ps : List (Nat × Operand)} (hL : L t = some i) (hd : i.desc = .slice x) (hj : L x = some e) (hc : n * e.size ≤ 16777216 ∧ e.zero.length = e.size ∧ 0 < e.size) :
  exOp L K Γ st d ty (.buildSlice t n ps.toArray) κ = partsX st ps fun pv => normX (repl n e.zero) fun z => fillX (fun k => some (k * e.size, e.size)) z pv fun cs => newX st d cs fun g st' => κ (.msl d g e.size 0 n) st' := by
 simp only [exOp, selX, tiX, hL, hd, hj, chk, hc, if_true, and_self]
def callK (L : Nat → Option TI) (K : Ann) (Γ : Oracle) (st : St) (d g : Nat) (ts : List Nat) (κ : AV → St → Ans) (args : List AV) : Ans := match K.hp.contains d with
 | true => match K.ro.contains d with
  | true => vX (aget d K.reads) (K.own.contains d) Γ st d g args κ
  | false => hX (aget d K.reads) (polOf L K d args ts) Γ st d g args κ
 | false => match args.all (okRead (aget d K.reads)) with
  | true => match K.ro.contains d with
   | false => callX L (K.own.contains d) Γ st d g args ts κ
   | true => roX L Γ st g args ts κ
  | false => none
def lentK (own : Bool) (Γ : Oracle) (st : St) (d f : Nat) (args : List AV) (κ : AV → St → Ans) (a : List AV) (b : List (Option (List AV))) (p : List (Option (Nat × Nat × Nat))) : Ans := match lentApart p && readFree p args with
 | true => resX (Γ f (st.tag + 1) a b) fun v r => giveX st p r fun st' => adoptX own st' d v κ
 | false => none
theorem op_call {c : Call} {g : Nat} {args : List Operand} {ts : List Nat} (h1 : c.callee = .value (.func g)) (h2 : c.args.toList = args) (h3 : c.argTypes.toList = ts) :
  exOp L K Γ st d ty (.call c) κ = opsX st args (callK L K Γ st d g ts κ) := by
 simp only [exOp, h1, h2, h3, opX_eq, operand, joinX, List.append_nil]
 rfl
theorem op_builtin {c : Call} {b : Builtin} {args : List Operand} {ts : List Nat} (h1 : c.callee = .builtin b) (h2 : c.args.toList = args) (h3 : c.argTypes.toList = ts) :
  exOp L K Γ st d ty (.call c) κ = opsX st args (builtinK L K st d b ts κ) := by
 simp only [exOp, h1, h2, h3]
theorem op_alloc {e : Nat} {i : TI} {z : List AV} (hL : L e = some i) (hz : i.zero = z) :
  exOp L K Γ st d ty (.alloc e) κ = newX st d z fun g st' => κ (.ref d g 0) st' := by
 simp only [exOp, tiX, hL, normX, hz]
theorem call_k {g : Nat} {ts : List Nat} {args : List AV} (h : (!K.hp.contains d && (args.all (okRead (aget d K.reads)) && !K.ro.contains d)) = true) : callK L K Γ st d g ts κ args = lendX L st 0 args ts (lentK (K.own.contains d) Γ st d g args κ) := by
 simp only [qO5, Bool.not_eq_true'] at h
 simp only [callK, h.1, h.2.1, h.2.2]
 rfl
def lentR (Γ : Oracle) (st : St) (f : Nat) (args : List AV) (κ : AV → St → Ans) (a : List AV) (b : List (Option (List AV))) (p : List (Option (Nat × Nat × Nat))) : Ans := match lentApart p && readFree p args with
 | true => resX (Γ f (st.tag + 1) a b) fun v r => match lentSame b r with
  | true => κ v st
  | false => none
 | false => none
theorem call_kro {g : Nat} {ts : List Nat} {args : List AV} (h : (!K.hp.contains d && (args.all (okRead (aget d K.reads)) && K.ro.contains d)) = true) : callK L K Γ st d g ts κ args = lendX L st 0 args ts (lentR Γ st g args κ) := by
 simp only [qO5, Bool.not_eq_true'] at h
 simp only [callK, h.1, h.2.1, h.2.2]
 rfl
theorem call_kh {g : Nat} {ts : List Nat} {args : List AV} (h : (K.hp.contains d && !K.ro.contains d) = true) : callK L K Γ st d g ts κ args = hX (aget d K.reads) (polOf L K d args ts) Γ st d g args κ := by
 simp only [qO5, Bool.not_eq_true'] at h
 simp only [callK, h.1, h.2]
theorem call_kv {g : Nat} {ts : List Nat} {args : List AV} (h : (K.hp.contains d && K.ro.contains d) = true) : callK L K Γ st d g ts κ args = vX (aget d K.reads) (K.own.contains d) Γ st d g args κ := by
 simp only [qO5] at h
 simp only [callK, h.1, h.2]
theorem call_ky {y : YInfo} {args : List AV} (h : K.hp.contains d = true) (ht : args.all AV.top = true) : yK K Γ st d y κ args = hGX 250000 [.mapd [.nilM] [], .yld y []] (y.num + 1000000000) (aget d K.reads) .all Γ st d args κ := by
 simp only [yK, yX, h, ht]
theorem v_call {rd : Option (List Nat)} {own : Bool} {f tag next d : Nat} {env : List (Nat × AV)} {heap : List (Nat × Blk)} {args args' : List AV} {ns ms : List (Option (List AV))} {v : AV} {κ : AV → St → Ans}
  (h1 : args.map (view rd ⟨env, heap, next, tag⟩ 12) = args') (h2 : args.map (fun _ => (none : Option (List AV))) = ns) (hc : Γ f (tag + 1) args' ns = some (v, ms)) :
  vX rd own Γ ⟨env, heap, next, tag⟩ d f args κ = adoptX own ⟨env, heap, next, tag⟩ d v κ := by
 subst h1; subst h2
 simp only [vX, vCall, hc, qO3, qO2, zo5]
theorem h_call {rd : Option (List Nat)} {V : Pol} {f tag next d : Nat} {env : List (Nat × AV)} {heap heap' : List (Nat × Blk)} {args args' : List AV} {pk bk : Pk} {l r : List (Option (List AV))} {v v' : AV} {κ : AV → St → Ans}
  (h1 : visit rd V ⟨env, heap, next, tag⟩ (tag + 1, 0) 200 (rootsAt 0 args) [] = some pk) (h2 : pkOk pk = true) (h3 : packed (.inn tag) ⟨env, heap, next, tag⟩ pk pk = some l) (h4 : args.map (ren (.inn tag) pk) = args')
  (hc : Γ (f + 1000000000) (tag + 1) (.mapd [] [] :: args') l = some (v, r))
  (h5 : backPk ⟨env, heap, next, tag⟩ d (tag + 1) pk (rootKeys args') r = some bk) (h6 : ((bk.map (·.2.2.1)).all (okKey rd) && (pkOk bk && backOk ⟨env, heap, next, tag⟩ (rootKeys args') bk r)) = true)
  (h7 : backHeap (.out tag) bk bk r ++ heap.filter (fun p => !(pk.map (·.1)).contains p.1 && !(bk.map (·.2.2.1)).contains p.1) = heap') (h8 : ren (.out tag) bk v = v') :
  hX rd V Γ ⟨env, heap, next, tag⟩ d f args κ = κ v' ⟨env, heap', next + 1, tag⟩ := by
 subst h4
 simp only [hX, hGX, hCallG, List.singleton_append, h1, h2, h3, hc, h5, h6, h7, h8, qO3, qO2, if_true]
theorem h_callG {rd : Option (List Nat)} {V : Pol} {j0 f tag next d : Nat} {hd : List AV} {env : List (Nat × AV)} {heap heap' : List (Nat × Blk)} {args args' : List AV} {pk bk : Pk} {l r : List (Option (List AV))} {v v' : AV} {κ : AV → St → Ans}
  (h1 : visit rd V ⟨env, heap, next, tag⟩ (tag + 1, 0) 200 (rootsAt j0 args) [] = some pk) (h2 : pkOk pk = true) (h3 : packed (.inn tag) ⟨env, heap, next, tag⟩ pk pk = some l) (h4 : args.map (ren (.inn tag) pk) = args')
  (hc : Γ f (tag + 1) (hd ++ args') l = some (v, r))
  (h5 : backPk ⟨env, heap, next, tag⟩ d (tag + 1) pk (rootKeys args') r = some bk) (h6 : ((bk.map (·.2.2.1)).all (okKey rd) && (pkOk bk && backOk ⟨env, heap, next, tag⟩ (rootKeys args') bk r)) = true)
  (h7 : backHeap (.out tag) bk bk r ++ heap.filter (fun p => !(pk.map (·.1)).contains p.1 && !(bk.map (·.2.2.1)).contains p.1) = heap') (h8 : ren (.out tag) bk v = v') :
  hGX j0 hd f rd V Γ ⟨env, heap, next, tag⟩ d args κ = κ v' ⟨env, heap', next + 1, tag⟩ := by
 subst h4
 simp only [hGX, hCallG, h1, h2, h3, hc, h5, h6, h7, h8, qO3, qO2, if_true]
theorem fin_h {rs : List ResultVar} {e : Ex} {tag next : Nat} {env : List (Nat × AV)} {heap : List (Nat × Blk)} {args gs : List AV} {pk : Pk} {r : List (Option (List AV))} {v : AV} (he : e = .ret ∨ e = .normal)
  (h0 : getAll L ⟨env, heap, next, tag⟩ rs = some gs) (h1 : visit none .all ⟨env, heap, next, tag⟩ (tag, 0) 200 (rootsAt 0 args ++ rootsAt 400000 gs) [] = some pk)
  (h2 : (pkOk pk && (rootKeys args).all (fun k => look k (tag, 0) pk == some (k, (tag, 0)))) = true) (h3 : packed .plain ⟨env, heap, next, tag⟩ pk pk = some r) (h4 : oneOrTup (gs.map (ren .plain pk)) = v) :
  finH L rs tag args e ⟨env, heap, next, tag⟩ = some (v, r) := by
 rw [qO5] at h2
 rcases he with rfl | rfl <;> simp only [finH, h0, h1, h2.1, h2.2, h3, h4, qO3, qO2, if_true, beq_self_eq_true, Bool.and_self]
theorem lent_r {f tag next : Nat} {env : List (Nat × AV)} {heap : List (Nat × Blk)} {args a : List AV} {b : List (Option (List AV))} {p : List (Option (Nat × Nat × Nat))} {v : AV} (h : (lentApart p && readFree p args) = true) (hr : Γ f (tag + 1) a b = some (v, b)) (hs : lentSame b b = true) :
  lentR Γ ⟨env, heap, next, tag⟩ f args κ a b p = κ v ⟨env, heap, next, tag⟩ := by
 simp only [lentR, h, hr, resX, hs]
theorem lent_k {own : Bool} {f tag next : Nat} {env : List (Nat × AV)} {heap : List (Nat × Blk)} {args a : List AV} {b : List (Option (List AV))} {p : List (Option (Nat × Nat × Nat))} {v : AV} {r : List (Option (List AV))} (h : (lentApart p && readFree p args) = true) (hr : Γ f (tag + 1) a b = some (v, r)) :
  lentK own Γ ⟨env, heap, next, tag⟩ d f args κ a b p = giveX ⟨env, heap, next, tag⟩ p r fun st' => adoptX own st' d v κ := by
 simp only [lentK, h, hr, resX]
theorem give_nil {κ : St → Ans} : giveX st [] [] κ = κ st := rfl
theorem give_none {κ : St → Ans} {l : List (Option (Nat × Nat × Nat))} {r : List (Option (List AV))} : giveX st (none :: l) (none :: r) κ = giveX st l r κ := rfl
theorem give_some {κ : St → Ans} {l : List (Option (Nat × Nat × Nat))} {r : List (Option (List AV))} {s o n tag next : Nat} {g : Nat × Nat} {env : List (Nat × AV)} {heap heap' : List (Nat × Blk)} {cells old c : List AV}
  (hb : aget s heap = some ⟨g, old⟩) (hn : cells.length = n) (hc : setR old o cells = c) (hp : ∀ κ', aputX s ⟨g, c⟩ heap κ' = κ' heap') :
  giveX ⟨env, heap, next, tag⟩ (some (s, o, n) :: l) (some cells :: r) κ = giveX ⟨env, heap', next, tag⟩ l r κ := by
 simp only [giveX, zc3, hb, chk, hn, if_true, setX, hc, putCellsX, hp]
theorem adopt_no {v : AV} : adoptX false st d v κ = κ v st := rfl
theorem adopt_fsl {z n : Nat} {cells : List AV} : adoptX true st d (.fsl z n cells) κ = newX st d cells fun g st' => κ (.msl d g z 0 n) st' := rfl
end
theorem ex_skip : ex F .skip st κ = κ .normal st := rfl
theorem ex_ret : ex F .ret st κ = κ .ret st := rfl
theorem ex_exit {id : Nat} : ex F (.exit id) st κ = κ (.exit id) st := rfl
theorem ex_region {id : Nat} {ops : List Oper} {draw : Bool} : ex F (.region id ops.toArray draw) st κ = exOps F.L F.K F.Γ ops ops st (regK F ops κ) := by simp only [ex]
theorem ex_seq {a b : Code} : ex F (.seq a b) st κ = ex F a st (seqK (ex F b) κ) := rfl
theorem ex_block {id : Nat} {a : Code} : ex F (.block id a) st κ = ex F a st (blkK id κ) := rfl
theorem ex_loop {a : Code} : ex F (.loop a) st κ = loopX F a st κ := rfl
theorem ex_cond {c : Operand} {a b : Code} {x : Bool} (h : ∀ κ', opX st c κ' = κ' (.bool x)) : ex F (.cond c a b) st κ = brX x (ex F a st κ) (ex F b st κ) := h _
theorem k_seq {f : St → (Ex → St → Ans) → Ans} : seqK f κ .normal st = f st κ := rfl
theorem k_seq_ret {f : St → (Ex → St → Ans) → Ans} : seqK f κ .ret st = κ .ret st := rfl
theorem k_seq_exit {f : St → (Ex → St → Ans) → Ans} {j : Nat} : seqK f κ (.exit j) st = κ (.exit j) st := rfl
theorem k_blk {id : Nat} : blkK id κ .normal st = κ .normal st := rfl
theorem k_blk_ret {id : Nat} : blkK id κ .ret st = κ .ret st := rfl
theorem k_blk_here {id : Nat} : blkK id κ (.exit id) st = κ .normal st := by
 simp only [blkK]
 rcases beq_tf id id with ⟨h, _⟩ | ⟨_, h⟩
 ·rw [h]
 ·exact (h rfl).elim
theorem k_blk_exit {id j : Nat} (h : Nat.beq j id = false) : blkK id κ (.exit j) st = κ (.exit j) st := by simp only [blkK, h]
theorem zcg {x : Bool} {a b r : Ans} (h1 : x = true → a = r) (h2 : x = false → b = r) : brX x a b = r := by
 cases x
 ·exact h2 rfl
 ·exact h1 rfl
theorem zc0 {p : Prop} {_ : Decidable p} {a b r : Ans} (h1 : p → a = r) (h2 : ¬ p → b = r) : brX (decide p) a b = r :=
 zcg (fun h => h1 (of_decide_eq_true h)) (fun h => h2 (of_decide_eq_false h))
theorem br_not {x : Bool} {a b : Ans} : brX (!x) a b = brX x b a := by cases x <;> rfl
theorem fin_ret : finX F .ret st = getResX F.L st F.results fun gs => frAllX F.np F.frz st gs fun vs _ => outX st 0 F.lent fun r => endX vs r := rfl
theorem fin_normal : finX F .normal st = getResX F.L st F.results fun gs => frAllX F.np F.frz st gs fun vs _ => outX st 0 F.lent fun r => endX vs r := rfl
theorem zaa {a : Code} {env env' : List (Nat × AV)} {heap heap' : List (Nat × Blk)} {next next' tag : Nat} (he : env = env') (hh : heap = heap') (hn : next = next') : headX F a ⟨env, heap, next, tag⟩ κ = headX F a ⟨env', heap', next', tag⟩ κ := by rw [he, hh, hn]
end
section
variable {L : Nat → Option TI} {K : Ann} {Γ : Oracle} {ops l : List Oper} {d : Nat} {op : Op} {ty : Nat} {pos : String} {after : Array Edge} {st : St} {κ : St → Ans} {v : AV} {r : Ans}
 {env env1 env2 env' : List (Nat × AV)} {heap heap' : List (Nat × Blk)} {next next' tag tag' : Nat}
theorem ops_cons (hn : Nat.blt d K.nt = true) (h : ∀ κ' : AV → St → Ans, exOp L K Γ st d ty op κ' = κ' v ⟨env1, heap', next', tag'⟩) (hp : ∀ κ', aputX d v env1 κ' = κ' env') :
  exOps L K Γ ops (⟨some d, op, ty, pos, after, none⟩ :: l) st κ = exOps L K Γ ops l ⟨env', heap', next', tag'⟩ κ := by
 simp only [exOps, Option.getD_some, hn, h, putX, hp]
theorem ops_cons0 (hn : Nat.blt 0 K.nt = true) (h : ∀ κ' : AV → St → Ans, exOp L K Γ st 0 ty op κ' = κ' v ⟨env', heap', next', tag'⟩) :
  exOps L K Γ ops (⟨none, op, ty, pos, after, none⟩ :: l) st κ = exOps L K Γ ops l ⟨env', heap', next', tag'⟩ κ := by
 simp only [exOps, Option.getD_none, hn, h, putX]
theorem ops_run {dd : Option Nat} {j d0 : Nat} {want : Bool} (hg : (ops[j]?).bind (·.dst) = some d0) (hv : aget d0 env = some (.bool want)) :
  exOps L K Γ ops (⟨dd, op, ty, pos, after, some (j, want)⟩ :: l) ⟨env, heap, next, tag⟩ κ = exOps L K Γ ops (⟨dd, op, ty, pos, after, none⟩ :: l) ⟨env, heap, next, tag⟩ κ := by
 simp only [exOps, hg, zc3, hv]
 have hput : aput d0 (.bool want) env = env := zd8 hv
 cases want <;> simp only [brX, zd4, hput]
theorem ops_skip {dd : Option Nat} {j d0 : Nat} {want : Bool} (hg : (ops[j]?).bind (·.dst) = some d0) (hv : aget d0 env = some (.bool (!want))) (hn : Nat.blt (dd.getD 0) K.nt = true)
  (hp : ∀ κ', putX ⟨env, heap, next, tag⟩ dd (.tup []) κ' = κ' ⟨env', heap, next, tag⟩) :
  exOps L K Γ ops (⟨dd, op, ty, pos, after, some (j, want)⟩ :: l) ⟨env, heap, next, tag⟩ κ = exOps L K Γ ops l ⟨env', heap, next, tag⟩ κ := by
 simp only [exOps, hg, zc3, hv, hn]
 have hput : aput d0 (.bool (!want)) env = env := zd8 hv
 cases want <;> simp only [brX, zd4, hput, Bool.not_true, Bool.not_false, hp] <;> simp only [Bool.not_true, Bool.not_false] at hput <;> rw [hput, hp]
theorem ops_skipT {dd : Option Nat} {j d0 : Nat} {want : Bool} (hg : (ops[j]?).bind (·.dst) = some d0) (hv : aget d0 env = some (.tup [])) (hn : Nat.blt (dd.getD 0) K.nt = true)
  (hp : ∀ κ', putX ⟨env, heap, next, tag⟩ dd (.tup []) κ' = κ' ⟨env', heap, next, tag⟩) :
  exOps L K Γ ops (⟨dd, op, ty, pos, after, some (j, want)⟩ :: l) ⟨env, heap, next, tag⟩ κ = exOps L K Γ ops l ⟨env', heap, next, tag⟩ κ := by
 simp only [exOps, hg, zc3, hv, hn, hp]
open Classical in
theorem zj3 {k : Nat} {v : AV} {l l' : List (Nat × AV)} (h : ∀ κ' : List (Nat × AV) → Ans, aputX k v l κ' = κ' l') : aput k v l = l' := by
 have := h fun e => if e = l' then some (.junk, []) else none
 rw [zd4, if_pos rfl] at this
 by_cases h' : aput k v l = l'
 ·exact h'
 ·rw [if_neg h'] at this; cases this
theorem zby {dd : Option Nat} {j d0 : Nat} {want b : Bool} (hg : (ops[j]?).bind (·.dst) = some d0) (hv : aget d0 env = some (.bool b))
  (hp1 : ∀ κ', aputX d0 (.bool true) env κ' = κ' env1) (hp2 : ∀ κ', aputX d0 (.bool false) env κ' = κ' env2)
  (h1 : b = true → exOps L K Γ ops (⟨dd, op, ty, pos, after, some (j, want)⟩ :: l) ⟨env1, heap, next, tag⟩ κ = r)
  (h2 : b = false → exOps L K Γ ops (⟨dd, op, ty, pos, after, some (j, want)⟩ :: l) ⟨env2, heap, next, tag⟩ κ = r) :
  exOps L K Γ ops (⟨dd, op, ty, pos, after, some (j, want)⟩ :: l) ⟨env, heap, next, tag⟩ κ = r := by
 cases b
 ·have e : env2 = env := (zj3 hp2).symm.trans (zd8 hv)
  rw [← h2 rfl, e]
 ·have e : env1 = env := (zj3 hp1).symm.trans (zd8 hv)
  rw [← h1 rfl, e]
theorem ops_known {dd : Option Nat} {j d0 : Nat} {want b x : Bool} (hg : (ops[j]?).bind (·.dst) = some d0) (hv : aget d0 env = some (.bool b)) (hb : b = x)
  (hp : ∀ κ', aputX d0 (.bool x) env κ' = κ' env1) :
  exOps L K Γ ops (⟨dd, op, ty, pos, after, some (j, want)⟩ :: l) ⟨env, heap, next, tag⟩ κ = exOps L K Γ ops (⟨dd, op, ty, pos, after, some (j, want)⟩ :: l) ⟨env1, heap, next, tag⟩ κ := by
 subst hb
 have e : env1 = env := (zj3 hp).symm.trans (zd8 hv)
 rw [e]
theorem ops_nil {F : Fx} {κ : Ex → St → Ans} {opl : List Oper} (h : ∀ κ', tidyX F.K.cross opl st κ' = κ' ⟨env', heap', next', tag'⟩) : exOps L K Γ ops [] st (regK F opl κ) = κ .normal ⟨env', heap', next', tag'⟩ := h _
theorem loop_head {F : Fx} {a : Code} {κ : Ex → St → Ans} (h : ∀ κ', trimX (F.K.heads.find? (·.1 == firstRegion a)) st κ' = κ' ⟨env', heap', next', tag'⟩) : loopX F a st κ = headX F a ⟨env', heap', next', tag'⟩ κ := by
 rw [loopX_head, h]
end
end Go.Sim
end
section
namespace Go.Sim
open Go
noncomputable abbrev callH (L : Nat → Option TI) (T : Nat → Option Entry) (f tag : Nat) (args : List AV) (lent : List (Option (List AV))) : Option (AV × List (Option (List AV))) := callω L T (f + 1000000000) tag (.mapd [] [] :: args) lent
abbrev hb (k : Nat) (cells : List AV) : Option (List AV) := some (.mref k (0, 0) :: cells)
theorem zmr : shutL [] = true := rfl
theorem zc9 (c : AV) (cs : List AV) : shutL (c :: cs) = (c.shut && shutL cs) := rfl
theorem znp (a b : List AV) : shutL (a ++ b) = (shutL a && shutL b) := by
 induction a with
 | nil => rfl
 | cons c a ih => simp only [List.cons_append, zc9, ih, Bool.and_assoc]
theorem plain_shut {c : AV} (h : c.plain = true) : c.shut = true := by cases c <;> simp [AV.plain] at h <;> rfl
theorem zd9 : ∀ {cs : List AV}, cs.all AV.plain = true → shutL cs = true
 | [], _ => rfl
 | c :: cs, h => by
  simp only [List.all_cons, qO5] at h
  simp only [zc9, plain_shut h.1, zd9 h.2, Bool.and_self]
theorem shutL_of {cs : List AV} (h : ∀ c ∈ cs, c.shut = true) : shutL cs = true := by
 induction cs with
 | nil => rfl
 | cons c cs ih => simp only [zc9, h c (by simp), ih fun x hx => h x (by simp [hx]), Bool.and_self]
theorem zj4 {α : Type} (f : α → AV) (h : ∀ x, (f x).shut = true) (l : List α) : shutL (l.map f) = true := shutL_of fun c hc => by
 obtain ⟨x, _, rfl⟩ := List.mem_map.1 hc
 exact h x
theorem zof (l : List ByteArray) : shutL (l.map .str) = true := zj4 _ (fun _ => rfl) l
theorem zmj (k : IntKind) (l : List Int) : shutL (l.map (.int k)) = true := zj4 _ (fun _ => rfl) l
theorem zkt (l : List Bool) : shutL (l.map .bool) = true := zj4 _ (fun _ => rfl) l
theorem zny (n : Nat) (c : AV) (h : c.shut = true) : shutL (List.replicate n c) = true := shutL_of fun x hx => by rw [List.eq_of_mem_replicate hx]; exact h
theorem zna (ks vs : List AV) : (AV.mapd ks vs).shut = (shutL ks && shutL vs) := rfl
theorem shut_isl (z n : Nat) (cs : List AV) : (AV.isl z n cs).shut = shutL cs := rfl
theorem shut_agg (cs : List AV) : (AV.agg cs).shut = shutL cs := rfl
theorem shut_ipt (cs : List AV) : (AV.ipt cs).shut = shutL cs := rfl
theorem shut_yld (y : YInfo) (cs : List AV) : (AV.yld y cs).shut = shutL cs := rfl
theorem shut_imp (ks vs : List AV) : (AV.imp ks vs).shut = (shutL ks && shutL vs) := rfl
theorem shut_fn (f : Nat) (cs : List AV) : (AV.fn f cs).shut = shutL cs := rfl
theorem zk5 (p i : Nat) : places p i [] = [] := rfl
theorem zh3 {v : AV} (h : v.shut = true) (p i : Nat) (vs : List AV) : places p i (v :: vs) = places p (i + 1) vs := by rw [places, if_pos h]
theorem zkm {v : AV} (h : v.shut = false) (p i : Nat) (vs : List AV) : places p i (v :: vs) = (v, nest p i) :: places p (i + 1) vs := by rw [places, if_neg (by rw [h]; decide)]
theorem zjo {cs : List AV} (h : shutL cs = true) (p i : Nat) : places p i cs = [] := by
 induction cs generalizing i with
 | nil => rfl
 | cons c cs ih =>
  rw [zc9, qO5] at h
  rw [zh3 h.1, ih h.2]
theorem zkr (p i : Nat) (a b : List AV) : places p i (a ++ b) = places p i a ++ places p (i + a.length) b := by
 induction a generalizing i with
 | nil => rfl
 | cons c a ih =>
  simp only [List.cons_append, places, ih, List.length_cons]
  rw [show i + 1 + a.length = i + (a.length + 1) from by omega]
  split <;> rfl
theorem pw_nil (lo hi p i : Nat) : placesW lo hi p i [] = [] := rfl
theorem zot {v : AV} (h : v.shut = true) (lo hi p i : Nat) (vs : List AV) : placesW lo hi p i (v :: vs) = placesW lo hi p (i + 1) vs := by rw [placesW, if_pos h]
theorem pw_in {lo hi i : Nat} (hb : (Nat.ble lo i && Nat.blt i hi) = true) {v : AV} (h : v.shut = false) (p : Nat) (vs : List AV) : placesW lo hi p i (v :: vs) = (v, nest p i) :: placesW lo hi p (i + 1) vs := by
 rw [placesW, if_neg (by rw [h]; decide), if_pos hb]
theorem pw_out {lo hi i : Nat} (hb : (Nat.ble lo i && Nat.blt i hi) = false) (v : AV) (p : Nat) (vs : List AV) : placesW lo hi p i (v :: vs) = placesW lo hi p (i + 1) vs := by
 rw [placesW]
 split
 ·rfl
 ·rw [if_neg (by rw [hb]; decide)]
theorem pw_shutL {cs : List AV} (h : shutL cs = true) (lo hi p i : Nat) : placesW lo hi p i cs = [] := by
 induction cs generalizing i with
 | nil => rfl
 | cons c cs ih =>
  rw [zc9, qO5] at h
  rw [zot h.1, ih h.2]
theorem pw_app (lo hi p i : Nat) (a b : List AV) : placesW lo hi p i (a ++ b) = placesW lo hi p i a ++ placesW lo hi p (i + a.length) b := by
 induction a generalizing i with
 | nil => rfl
 | cons c a ih =>
  simp only [List.cons_append, placesW, ih, List.length_cons]
  rw [show i + 1 + a.length = i + (a.length + 1) from by omega]
  split
  ·rfl
  ·split <;> rfl
theorem zo1 (j : Nat) : rootsAt j [] = [] := rfl
theorem zoi {v : AV} (h : v.shut = true) (j : Nat) (vs : List AV) : rootsAt j (v :: vs) = rootsAt (j + 1) vs := by rw [rootsAt, if_pos h]
theorem znz {v : AV} (h : v.shut = false) (j : Nat) (vs : List AV) : rootsAt j (v :: vs) = (v, j) :: rootsAt (j + 1) vs := by rw [rootsAt, if_neg (by rw [h]; decide)]
mutual
def AV.freeB (ok : Nat → Bool) : AV → Bool
 | .ref .. | .msl .. | .mref .. | .fsl .. | .tup _ => false
 | .isl _ _ cs | .ipt cs | .agg cs | .fn _ cs | .yld _ cs => freeLB ok cs
 | .mapd ks vs | .imp ks vs => freeLB ok ks && freeLB ok vs
 | .veil t _ => ok t
 | .junk | .bool _ | .int .. | .str _ | .nilp | .nsl | .nilI | .nilF | .nilM | .gref _ | .err _ => true
def freeLB (ok : Nat → Bool) : List AV → Bool
 | [] => true
 | c :: cs => c.freeB ok && freeLB ok cs
end
def AV.free (t : Nat) (v : AV) : Bool := v.freeB fun t' => Nat.blt t' t
def freeL (t : Nat) (cs : List AV) : Bool := freeLB (fun t' => Nat.blt t' t) cs
section
variable {u : Dir} {pk : Pk} {ok ok' : Nat → Bool}
mutual
theorem ren_B (hS : ∀ t v, ok t = true → renS u t v = .veil t v) : ∀ {v : AV}, v.freeB ok = true → ren u pk v = v
 | .isl z n cs, h => by rw [ren, renL_B hS (show freeLB ok cs = true from h)]
 | .ipt cs, h => by rw [ren, renL_B hS (show freeLB ok cs = true from h)]
 | .agg cs, h => by rw [ren, renL_B hS (show freeLB ok cs = true from h)]
 | .fn f cs, h => by rw [ren, renL_B hS (show freeLB ok cs = true from h)]
 | .yld y cs, h => by rw [ren, renL_B hS (show freeLB ok cs = true from h)]
 | .mapd ks vs, h => by
  rw [AV.freeB, qO5] at h
  rw [ren, renL_B hS h.1, renL_B hS h.2]
 | .imp ks vs, h => by
  rw [AV.freeB, qO5] at h
  rw [ren, renL_B hS h.1, renL_B hS h.2]
 | .veil t v, h => by rw [ren]; exact hS t v h
 | .junk, _ | .bool _, _ | .int _ _, _ | .str _, _ | .nilp, _ | .nsl, _ | .nilI, _ | .nilF, _ | .nilM, _ | .gref _, _ | .err _, _ => by simp only [ren]
 | .ref .., h | .msl .., h | .mref .., h | .fsl .., h | .tup _, h => by simp [AV.freeB] at h
theorem renL_B (hS : ∀ t v, ok t = true → renS u t v = .veil t v) : ∀ {cs : List AV}, freeLB ok cs = true → renL u pk cs = cs
 | [], _ => by simp only [renL]
 | c :: cs, h => by
  rw [freeLB, qO5] at h
  rw [renL, ren_B hS h.1, renL_B hS h.2]
end
mutual
theorem freeB_shut : ∀ {v : AV}, v.freeB ok = true → v.shut = true
 | .isl z n cs, h => zb0 (cs := cs) h
 | .ipt cs, h => zb0 (cs := cs) h
 | .agg cs, h => zb0 (cs := cs) h
 | .fn f cs, h => zb0 (cs := cs) h
 | .yld y cs, h => zb0 (cs := cs) h
 | .mapd ks vs, h => by
  rw [AV.freeB, qO5] at h
  rw [AV.shut, zb0 h.1, zb0 h.2]; rfl
 | .imp ks vs, h => by
  rw [AV.freeB, qO5] at h
  rw [AV.shut, zb0 h.1, zb0 h.2]; rfl
 | .veil t v, h => rfl
 | .junk, _ | .bool _, _ | .int _ _, _ | .str _, _ | .nilp, _ | .nsl, _ | .nilI, _ | .nilF, _ | .nilM, _ | .gref _, _ | .err _, _ => rfl
 | .ref .., h | .msl .., h | .mref .., h | .fsl .., h | .tup _, h => by simp [AV.freeB] at h
theorem zb0 : ∀ {cs : List AV}, freeLB ok cs = true → shutL cs = true
 | [], _ => rfl
 | c :: cs, h => by
  rw [freeLB, qO5] at h
  rw [shutL, freeB_shut h.1, zb0 h.2]; rfl
end
mutual
theorem zkd (ho : ∀ t, ok t = true) : ∀ {v : AV}, v.shut = true → v.freeB ok = true
 | .isl z n cs, h => zav (cs := cs) ho h
 | .ipt cs, h => zav (cs := cs) ho h
 | .agg cs, h => zav (cs := cs) ho h
 | .fn f cs, h => zav (cs := cs) ho h
 | .yld y cs, h => zav (cs := cs) ho h
 | .mapd ks vs, h => by
  rw [AV.shut, qO5] at h
  rw [AV.freeB, zav ho h.1, zav ho h.2]; rfl
 | .imp ks vs, h => by
  rw [AV.shut, qO5] at h
  rw [AV.freeB, zav ho h.1, zav ho h.2]; rfl
 | .veil t v, h => ho t
 | .junk, _ | .bool _, _ | .int _ _, _ | .str _, _ | .nilp, _ | .nsl, _ | .nilI, _ | .nilF, _ | .nilM, _ | .gref _, _ | .err _, _ => rfl
 | .ref .., h | .msl .., h | .mref .., h | .fsl .., h | .tup _, h => by simp [AV.shut] at h
theorem zav (ho : ∀ t, ok t = true) : ∀ {cs : List AV}, shutL cs = true → freeLB ok cs = true
 | [], _ => rfl
 | c :: cs, h => by
  rw [shutL, qO5] at h
  rw [freeLB, zkd ho h.1, zav ho h.2]; rfl
end
mutual
theorem zkc (ho : ∀ t, ok t = true → ok' t = true) : ∀ {v : AV}, v.freeB ok = true → v.freeB ok' = true
 | .isl z n cs, h => zaz (cs := cs) ho h
 | .ipt cs, h => zaz (cs := cs) ho h
 | .agg cs, h => zaz (cs := cs) ho h
 | .fn f cs, h => zaz (cs := cs) ho h
 | .yld y cs, h => zaz (cs := cs) ho h
 | .mapd ks vs, h => by
  rw [AV.freeB, qO5] at h
  rw [AV.freeB, zaz ho h.1, zaz ho h.2]; rfl
 | .imp ks vs, h => by
  rw [AV.freeB, qO5] at h
  rw [AV.freeB, zaz ho h.1, zaz ho h.2]; rfl
 | .veil t v, h => ho t h
 | .junk, _ | .bool _, _ | .int _ _, _ | .str _, _ | .nilp, _ | .nsl, _ | .nilI, _ | .nilF, _ | .nilM, _ | .gref _, _ | .err _, _ => rfl
 | .ref .., h | .msl .., h | .mref .., h | .fsl .., h | .tup _, h => by simp [AV.freeB] at h
theorem zaz (ho : ∀ t, ok t = true → ok' t = true) : ∀ {cs : List AV}, freeLB ok cs = true → freeLB ok' cs = true
 | [], _ => rfl
 | c :: cs, h => by
  rw [freeLB, qO5] at h
  rw [freeLB, zkc ho h.1, zaz ho h.2]; rfl
end
end
theorem blt_lt {a b : Nat} (h : Nat.blt a b = true) : a < b := by rwa [Nat.blt_eq] at h
theorem lt_blt {a b : Nat} (h : a < b) : Nat.blt a b = true := by rwa [Nat.blt_eq]
theorem zac {t : Nat} {cs : List AV} (h : freeL t cs = true) : shutL cs = true := zb0 h
theorem free_up {t : Nat} {v : AV} (h : v.free t = true) : v.free (t + 1) = true := zkc (fun t' h => lt_blt (Nat.lt_succ_of_lt (blt_lt h))) h
theorem zal {t : Nat} {cs : List AV} (h : freeL t cs = true) : freeL (t + 1) cs = true := zaz (fun t' h => lt_blt (Nat.lt_succ_of_lt (blt_lt h))) h
theorem ren_inn {pk : Pk} {t : Nat} {v : AV} (h : v.free t = true) : ren (.inn t) pk v = v := ren_B (fun t' v h => by
 have := blt_lt h
 simp only [renS]; rw [if_neg (by omega)]) h
theorem renL_inn {pk : Pk} {t : Nat} {cs : List AV} (h : freeL t cs = true) : renL (.inn t) pk cs = cs := renL_B (fun t' v h => by
 have := blt_lt h
 simp only [renS]; rw [if_neg (by omega)]) h
theorem ren_out {pk : Pk} {t : Nat} {v : AV} (h : v.free t = true) : ren (.out t) pk v = v := ren_B (fun t' v h => by
 have := blt_lt h
 simp only [renS]; rw [if_neg (by omega)]) h
theorem renL_out {pk : Pk} {t : Nat} {cs : List AV} (h : freeL t cs = true) : renL (.out t) pk cs = cs := renL_B (fun t' v h => by
 have := blt_lt h
 simp only [renS]; rw [if_neg (by omega)]) h
theorem ren_pl {pk : Pk} {v : AV} (h : v.shut = true) : ren .plain pk v = v := ren_B (ok := fun _ => true) (fun _ _ _ => rfl) (zkd (fun _ => rfl) h)
theorem renL_pl {pk : Pk} {cs : List AV} (h : shutL cs = true) : renL .plain pk cs = cs := renL_B (ok := fun _ => true) (fun _ _ _ => rfl) (zav (fun _ => rfl) h)
theorem free_isl (t z n : Nat) (cs : List AV) : (AV.isl z n cs).free t = freeL t cs := rfl
theorem free_ipt (t : Nat) (cs : List AV) : (AV.ipt cs).free t = freeL t cs := rfl
theorem free_agg (t : Nat) (cs : List AV) : (AV.agg cs).free t = freeL t cs := rfl
theorem free_fn (t f : Nat) (cs : List AV) : (AV.fn f cs).free t = freeL t cs := rfl
theorem free_yld (t : Nat) (y : YInfo) (cs : List AV) : (AV.yld y cs).free t = freeL t cs := rfl
theorem zn1 (t : Nat) (ks vs : List AV) : (AV.mapd ks vs).free t = (freeL t ks && freeL t vs) := rfl
theorem free_imp (t : Nat) (ks vs : List AV) : (AV.imp ks vs).free t = (freeL t ks && freeL t vs) := rfl
theorem zdc (t : Nat) (v : AV) : (AV.veil t v).free (t + 1) = true := lt_blt (Nat.lt_succ_self t)
theorem zki (t : Nat) (v : AV) : (AV.veil t v).free (t + 1 + 1) = true := free_up (zdc t v)
theorem zdo (t : Nat) : freeL t [] = true := rfl
theorem zcd (t : Nat) (c : AV) (cs : List AV) : freeL t (c :: cs) = (c.free t && freeL t cs) := rfl
theorem zmi (t : Nat) (a b : List AV) : freeL t (a ++ b) = (freeL t a && freeL t b) := by
 induction a with
 | nil => rfl
 | cons c a ih => simp only [List.cons_append, zcd, ih, Bool.and_assoc]
theorem zm1 {t : Nat} {cs : List AV} (h : ∀ c ∈ cs, c.free t = true) : freeL t cs = true := by
 induction cs with
 | nil => rfl
 | cons c cs ih => simp only [zcd, h c (by simp), ih fun x hx => h x (by simp [hx]), Bool.and_self]
theorem plain_free {c : AV} (t : Nat) (h : c.plain = true) : c.free t = true := by cases c <;> simp [AV.plain] at h <;> rfl
theorem zdu {cs : List AV} (t : Nat) (h : cs.all AV.plain = true) : freeL t cs = true := zm1 fun c hc => plain_free t (List.all_eq_true.1 h c hc)
theorem zie {α : Type} (t : Nat) (f : α → AV) (h : ∀ x, (f x).free t = true) (l : List α) : freeL t (l.map f) = true := zm1 fun c hc => by
 obtain ⟨x, _, rfl⟩ := List.mem_map.1 hc
 exact h x
theorem zne (t : Nat) (l : List ByteArray) : freeL t (l.map .str) = true := zie t _ (fun _ => rfl) l
theorem zmv (t : Nat) (k : IntKind) (l : List Int) : freeL t (l.map (.int k)) = true := zie t _ (fun _ => rfl) l
theorem zke (t : Nat) (l : List Bool) : freeL t (l.map .bool) = true := zie t _ (fun _ => rfl) l
theorem znu (t n : Nat) (c : AV) (h : c.free t = true) : freeL t (List.replicate n c) = true := zm1 fun x hx => by rw [List.eq_of_mem_replicate hx]; exact h
variable {u : Dir}
theorem zmd (pk : Pk) : renL u pk [] = [] := by simp only [renL]
theorem ziu (pk : Pk) (c : AV) (cs : List AV) : renL u pk (c :: cs) = ren u pk c :: renL u pk cs := by simp only [renL]
theorem renL_app (pk : Pk) (a b : List AV) : renL u pk (a ++ b) = renL u pk a ++ renL u pk b := by
 induction a with
 | nil => simp only [List.nil_append, zmd]
 | cons c a ih => simp only [List.cons_append, ziu, ih]
theorem ren_fsl (pk : Pk) (z n : Nat) (cs : List AV) : ren u pk (.fsl z n cs) = .isl z n cs := by simp only [ren]
theorem ren_agg (pk : Pk) (cs : List AV) : ren u pk (.agg cs) = .agg (renL u pk cs) := by simp only [ren]
theorem ren_tup (pk : Pk) (cs : List AV) : ren u pk (.tup cs) = .tup (renL u pk cs) := by simp only [ren]
theorem ren_fn (pk : Pk) (f : Nat) (cs : List AV) : ren u pk (.fn f cs) = .fn f (renL u pk cs) := by simp only [ren]
theorem ren_yld (pk : Pk) (y : YInfo) (cs : List AV) : ren u pk (.yld y cs) = .yld y (renL u pk cs) := by simp only [ren]
theorem ren_imp (pk : Pk) (ks vs : List AV) : ren u pk (.imp ks vs) = .imp (renL u pk ks) (renL u pk vs) := by simp only [ren]
theorem ren_isl (pk : Pk) (z n : Nat) (cs : List AV) : ren u pk (.isl z n cs) = .isl z n (renL u pk cs) := by simp only [ren]
theorem ren_ipt (pk : Pk) (cs : List AV) : ren u pk (.ipt cs) = .ipt (renL u pk cs) := by simp only [ren]
theorem ren_mapd (pk : Pk) (ks vs : List AV) : ren u pk (.mapd ks vs) = .mapd (renL u pk ks) (renL u pk vs) := by simp only [ren]
def renTo (d : AV) (o : Option (Nat × (Nat × Nat))) (f : Nat → (Nat × Nat) → AV) : AV := match o with
 | some (k, g) => f k g
 | none => d
theorem ren_ref (pk : Pk) (k : Nat) (g : Nat × Nat) (o : Nat) : ren u pk (.ref k g o) = renTo (renU u (.ref k g o)) (look k g pk) fun k g => .ref k g o := by
 simp only [ren, renTo]
 cases look k g pk <;> rfl
theorem ren_msl (pk : Pk) (k : Nat) (g : Nat × Nat) (z o n : Nat) : ren u pk (.msl k g z o n) = renTo (renU u (.msl k g z o n)) (look k g pk) fun k g => .msl k g z o n := by
 simp only [ren, renTo]
 cases look k g pk <;> rfl
theorem ren_mref (pk : Pk) (k : Nat) (g : Nat × Nat) : ren u pk (.mref k g) = renTo (renU u (.mref k g)) (look k g pk) fun k g => .mref k g := by
 simp only [ren, renTo]
 cases look k g pk <;> rfl
theorem zkb (d : AV) (k : Nat) (g : Nat × Nat) (f : Nat → (Nat × Nat) → AV) : renTo d (some (k, g)) f = f k g := rfl
theorem zkl (d : AV) (f : Nat → (Nat × Nat) → AV) : renTo d none f = d := rfl
theorem renU_inn (t : Nat) (v : AV) : renU (.inn t) v = .veil t v := rfl
theorem renU_out (t : Nat) (v : AV) : renU (.out t) v = .junk := rfl
theorem zka (v : AV) : renU .plain v = .junk := rfl
theorem ren_veil (pk : Pk) (t : Nat) (v : AV) : ren u pk (.veil t v) = renS u t v := by simp only [ren]
theorem zk9 (t : Nat) (v : AV) : renS .plain t v = .veil t v := rfl
theorem renS_out {t : Nat} {v : AV} (h : v.top = true) : renS (.out t) t v = v := by simp only [renS, if_true, h]
theorem zi9 (k : Nat) (g : Nat × Nat) : look k g [] = none := rfl
theorem zgr (k : Nat) (g : Nat × Nat) (k1 : Nat) (g1 : Nat × Nat) (l : Pk) : look k g ((k, g, k1, g1) :: l) = some (k1, g1) := by simp [look]
theorem zf1 {k k0 : Nat} (h : Nat.beq k0 k = false) (g g0 : Nat × Nat) (k1 : Nat) (g1 : Nat × Nat) (l : Pk) : look k g ((k0, g0, k1, g1) :: l) = look k g l := by
 rw [look, if_neg]
 exact fun e => Nat.ne_of_beq_eq_false h e.1
def sameMap : List Nat → List Nat → Bool
 | a :: as, b :: bs => (match isMapKey a, isMapKey b with | true, true => true | false, false => true | _, _ => false) && sameMap as bs
 | _, _ => true
def keysOk (ks ns : List Nat) : Bool := distinct ks && (distinct ns && sameMap ks ns)
theorem zg0 {pk : Pk} {ks ns : List Nat} (h1 : pk.map (·.1) = ks) (h2 : pk.map (·.2.2.1) = ns) (h : keysOk ks ns = true) : pkOk pk = true := by
 subst h1 h2
 simp only [keysOk, qO5] at h
 simp only [pkOk, qO5]
 refine ⟨⟨h.1, h.2.1⟩, ?_⟩
 have key : ∀ l : Pk, sameMap (l.map (·.1)) (l.map (·.2.2.1)) = true → (l.all fun x => isMapKey x.1 == isMapKey x.2.2.1) = true := by
  intro l
  induction l with
  | nil => intro _; rfl
  | cons x l ih =>
   intro h
   simp only [List.map_cons, sameMap, qO5] at h
   simp only [List.all_cons, qO5]
   refine ⟨?_, ih h.2⟩
   have := h.1
   cases h1 : isMapKey x.1 <;> cases h2 : isMapKey x.2.2.1 <;> rw [h1, h2] at this <;> first | rfl | (cases this; done)
 exact key pk h.2.2
def pfind (k' : Nat) : Pk → Option (Nat × (Nat × Nat) × Nat × (Nat × Nat))
 | [] => none
 | (k, σ, k1, g) :: l => match Nat.beq k1 k' with
  | true => some (k, σ, k1, g)
  | false => pfind k' l
theorem pfind_eq (k' : Nat) (pk : Pk) : pk.find? (fun x => x.2.2.1 == k') = pfind k' pk := by
 induction pk with
 | nil => rfl
 | cons x l ih =>
  obtain ⟨k, σ, k1, g⟩ := x
  simp only [pfind, List.find?_cons, ih]
  rcases beq_tf k1 k' with ⟨h, e⟩ | ⟨h, e⟩
  ·rw [h]; simp [e]
  ·rw [h]; simp [beq_eq_false_iff_ne.2 e]
def bringR (d : Nat) (roots : List Nat) (pk : Pk) : Nat → Nat → Nat
 | 0, p => nest d p
 | n + 1, p => match (match roots.contains p with | true => pfind p pk | false => none) with
  | some (k, _, _, _) => k
  | none => match Nat.ble 1000000 p with
   | true => nest (bringR d roots pk n (p / 1000000 - 1)) (p % 1000000)
   | false => nest d p
theorem bring_eq (d : Nat) (roots : List Nat) (pk : Pk) (n p : Nat) : bring d (pk.filter fun x => roots.contains x.2.2.1) n p = bringR d roots pk n p := by
 induction n generalizing p with
 | zero => rfl
 | succ n ih =>
  have hf : (pk.filter fun x => roots.contains x.2.2.1).find? (fun x => x.2.2.1 == p) = match roots.contains p with | true => pfind p pk | false => none := by
   rw [← pfind_eq]
   cases hr : roots.contains p with
   | true =>
    simp only
    clear ih
    induction pk with
    | nil => rfl
    | cons x l ihl =>
     by_cases hx : x.2.2.1 = p
     ·rw [List.filter_cons_of_pos (by rw [hx]; exact hr)]
      simp [List.find?_cons, hx]
     ·by_cases hc : roots.contains x.2.2.1 = true
      ·rw [List.filter_cons_of_pos (by exact hc)]
       simp only [List.find?_cons, beq_eq_false_iff_ne.2 hx]
       exact ihl
      ·rw [List.filter_cons_of_neg (by exact hc)]
       simp only [List.find?_cons, beq_eq_false_iff_ne.2 hx]
       exact ihl
   | false =>
    simp only
    rw [List.find?_eq_none]
    intro x hx hk
    rw [List.mem_filter] at hx
    simp only [beq_iff_eq] at hk
    rw [hk, hr] at hx
    cases hx.2
  simp only [bring, bringR, hf, ih]
  generalize (match roots.contains p with | true => pfind p pk | false => none) = o
  cases o with
  | none => cases Nat.ble 1000000 p <;> rfl
  | some x => obtain ⟨k, σ, k1, g⟩ := x; rfl
def kfind (k' : Nat) : List (Nat × Nat) → Option Nat
 | [] => none
 | (k, k1) :: l => match Nat.beq k1 k' with
  | true => some k
  | false => kfind k' l
theorem kfind_eq (k' : Nat) (pk : Pk) : kfind k' (pk.map fun x => (x.1, x.2.2.1)) = (pfind k' pk).map (·.1) := by
 induction pk with
 | nil => rfl
 | cons x l ih =>
  obtain ⟨k, σ, k1, g⟩ := x
  simp only [List.map_cons, kfind, pfind, ih]
  cases Nat.beq k1 k' <;> rfl
def bringK (d : Nat) (roots : List Nat) (kn : List (Nat × Nat)) : Nat → Nat → Nat
 | 0, p => nest d p
 | n + 1, p => match (match roots.contains p with | true => kfind p kn | false => none) with
  | some k => k
  | none => match Nat.ble 1000000 p with
   | true => nest (bringK d roots kn n (p / 1000000 - 1)) (p % 1000000)
   | false => nest d p
theorem bringK_eq (d : Nat) (roots : List Nat) (pk : Pk) (n p : Nat) : bringR d roots pk n p = bringK d roots (pk.map fun x => (x.1, x.2.2.1)) n p := by
 induction n generalizing p with
 | zero => rfl
 | succ n ih =>
  simp only [bringR, bringK, kfind_eq, ih]
  cases roots.contains p with
  | true =>
   simp only
   cases pfind p pk with
   | none => rfl
   | some x => obtain ⟨k, σ, k1, g⟩ := x; rfl
  | false => rfl
section
variable {rd : Option (List Nat)} {V : Pol} {st : St} {g : Nat × Nat} {n : Nat} {wl rest ps : List (AV × Nat)} {pk pk' : Pk} {v : AV} {p : Nat} {k : Nat} {σ : Nat × Nat} {cells : List AV} {r : Option Pk}
theorem vis_nil : visit rd V st g n [] pk = some pk := by unfold visit; rfl
theorem vis_seen {q : Nat × (Nat × Nat)} (hv : refOf v = some (k, σ)) (hl : look k σ pk = some q) (h : visit rd V st g n rest pk = r) : visit rd V st g (n + 1) ((v, p) :: rest) pk = r := by
 rw [visit, hv]; simp only [hl, Option.isSome_some, if_true]; exact h
theorem vis_refV {q : Nat} (hv : refOf v = some (k, σ)) (hl : look k σ pk = none) (hk : (okKey rd k && V.ok k) = true) (hb : aget k st.heap = some ⟨σ, cells⟩) (hp : placesV (V.win k) p cells = ps) (hr : rest ++ ps = wl)
  (hm : (match isMapKey k with | true => p + 500000 | false => p) = q) (hq : pk ++ [(k, σ, q, g)] = pk') (h : visit rd V st g n wl pk' = r) : visit rd V st g (n + 1) ((v, p) :: rest) pk = r := by
 have hm' : (if isMapKey k then p + 500000 else p) = q := by rw [← hm]; cases isMapKey k <;> rfl
 rw [visit, hv]; simp only [hl, Option.isSome_none, Bool.false_eq_true, if_false, hk, if_true, hb, hp, hr, hm', hq]; exact h
theorem vis_ref {q : Nat} (hv : refOf v = some (k, σ)) (hl : look k σ pk = none) (hk : (okKey rd k && V.ok k) = true) (hb : aget k st.heap = some ⟨σ, cells⟩) (hw : V.win k = none) (hp : places p 0 cells = ps) (hr : rest ++ ps = wl)
  (hm : (match isMapKey k with | true => p + 500000 | false => p) = q) (hq : pk ++ [(k, σ, q, g)] = pk') (h : visit rd V st g n wl pk' = r) : visit rd V st g (n + 1) ((v, p) :: rest) pk = r :=
 vis_refV hv hl hk hb (by rw [hw]; exact hp) hr hm hq h
theorem vis_refW {q lo hi : Nat} (hv : refOf v = some (k, σ)) (hl : look k σ pk = none) (hk : (okKey rd k && V.ok k) = true) (hb : aget k st.heap = some ⟨σ, cells⟩) (hw : V.win k = some (lo, hi)) (hp : placesW lo hi p 0 cells = ps) (hr : rest ++ ps = wl)
  (hm : (match isMapKey k with | true => p + 500000 | false => p) = q) (hq : pk ++ [(k, σ, q, g)] = pk') (h : visit rd V st g n wl pk' = r) : visit rd V st g (n + 1) ((v, p) :: rest) pk = r :=
 vis_refV hv hl hk hb (by rw [hw]; exact hp) hr hm hq h
theorem vis_dead (hv : refOf v = some (k, σ)) (hl : look k σ pk = none) (hk : (okKey rd k && V.ok k) = true) (hb : aget k st.heap = none) (h : visit rd V st g n rest pk = r) : visit rd V st g (n + 1) ((v, p) :: rest) pk = r := by
 rw [visit, hv]; simp only [hl, Option.isSome_none, Bool.false_eq_true, if_false, hk, if_true, hb]; exact h
theorem vis_hide (hv : refOf v = some (k, σ)) (hl : look k σ pk = none) (hk : (okKey rd k && V.ok k) = false) (h : visit rd V st g n rest pk = r) : visit rd V st g (n + 1) ((v, p) :: rest) pk = r := by
 rw [visit, hv]; simp only [hl, Option.isSome_none, Bool.false_eq_true, if_false, hk]; exact h
theorem vis_val (hv : refOf v = none) (hp : kids p v = ps) (hr : rest ++ ps = wl) (h : visit rd V st g n wl pk = r) : visit rd V st g (n + 1) ((v, p) :: rest) pk = r := by
 rw [visit, hv]; simp only [hp, hr]; exact h
theorem kids_isl (z n : Nat) (cs : List AV) : kids p (.isl z n cs) = places p 0 cs := rfl
theorem kids_ipt (cs : List AV) : kids p (.ipt cs) = places p 0 cs := rfl
theorem kids_agg (cs : List AV) : kids p (.agg cs) = places p 0 cs := rfl
theorem kids_tup (cs : List AV) : kids p (.tup cs) = places p 0 cs := rfl
theorem kids_fn (f : Nat) (cs : List AV) : kids p (.fn f cs) = places p 0 cs := rfl
theorem kids_yld (y : YInfo) (cs : List AV) : kids p (.yld y cs) = places p 0 cs := rfl
theorem kids_imp (ks vs : List AV) : kids p (.imp ks vs) = places p 0 ks ++ places p ks.length vs := rfl
theorem zn2 (ks vs : List AV) : kids p (.mapd ks vs) = places p 0 ks ++ places p ks.length vs := rfl
theorem kids_fsl (z n : Nat) (cs : List AV) : kids p (.fsl z n cs) = [] := rfl
variable {l0 : Pk} {k' : Nat} {cs : List AV} {l : List (Option (List AV))} {h' : Nat × Nat}
theorem packed_nil : packed u st pk [] = some [] := rfl
theorem zq7 (hb : aget k st.heap = some ⟨σ, cells⟩) (hr : renL u pk cells = cs) (h : packed u st pk l0 = some l) : packed u st pk ((k, σ, k', g) :: l0) = some (some (.mref k' (0, 0) :: cs) :: l) := by
 simp only [packed, hb, if_true, h, hr, Option.map_some]
variable {d tag : Nat} {roots : List Nat} {bk : Pk} {k2 : Nat}
theorem backPk_nil : backPk st d tag pk roots [] = some [] := rfl
theorem zp8 {q : Nat × Nat} (hr : roots.contains k' = true) (hf : pfind k' pk = some (k, σ, k2, q)) (h : backPk st d tag pk roots l = some bk) :
  backPk st d tag pk roots (some (.mref k' h' :: cells) :: l) = some ((k', (tag, 0), k, σ) :: bk) := by
 simp only [backPk, h, hr, if_true, pfind_eq, hf, qO3, qO2]
theorem backPk_new {kn : List (Nat × Nat)} (hr : roots.contains k' = false) (hm : pk.map (fun x => (x.1, x.2.2.1)) = kn) (hf : bringK d roots kn 20 k' = k2) (h : backPk st d tag pk roots l = some bk) :
  backPk st d tag pk roots (some (.mref k' h' :: cells) :: l) = some ((k', (tag, 0), k2, (st.tag, st.next)) :: bk) := by
 subst hm
 simp only [backPk, h, hr, Bool.false_eq_true, if_false, bring_eq, bringK_eq, hf, qO3, qO2]
theorem backOk_nil : backOk st roots [] [] = true := rfl
theorem zpp {c : AV} (hr : roots.contains k' = true) (hb : aget k2 st.heap = some ⟨σ, cs⟩) (hl : cs.length = cells.length) (h : backOk st roots bk l = true) :
  backOk st roots ((k', g, k2, h') :: bk) (some (c :: cells) :: l) = true := by
 simp only [backOk, hr, if_true, lenOf, hb, Option.map_some, hl, h, beq_self_eq_true, Bool.and_self]
theorem backOk_new {c : AV} (hr : roots.contains k' = false) (hb : (Nat.ble 1000000 k2 || isMapKey k2) = true) (h : backOk st roots bk l = true) :
  backOk st roots ((k', g, k2, h') :: bk) (some (c :: cells) :: l) = true := by
 simp only [backOk, hr, Bool.false_eq_true, if_false, hb, h, Bool.and_self]
variable {hs hr : List (Nat × Blk)}
theorem zoo {r : List (Option (List AV))} : backHeap u pk [] r = [] := by simp only [backHeap]
theorem zli {c : AV} (h1 : renL u pk cells = cs) (h : backHeap u pk l0 l = hs) : backHeap u pk ((k', g, k2, h') :: l0) (some (c :: cells) :: l) = (k2, ⟨h', cs⟩) :: hs := by
 simp only [backHeap, h1, h]
def stays (a b : List Nat) (h : List (Nat × Blk)) : List (Nat × Blk) := h.filter fun p => !a.contains p.1 && !b.contains p.1
variable {a b : List Nat} {bl : Blk}
theorem stays_nil : stays a b [] = [] := rfl
theorem stays_keep (h : (!a.contains k && !b.contains k) = true) (h1 : stays a b hs = hr) : stays a b ((k, bl) :: hs) = (k, bl) :: hr := by
 rw [← h1, stays, List.filter_cons_of_pos (by exact h)]; rfl
theorem stays_drop (h : (!a.contains k && !b.contains k) = false) (h1 : stays a b hs = hr) : stays a b ((k, bl) :: hs) = hr := by
 rw [← h1, stays, List.filter_cons_of_neg (by rw [h]; decide)]; rfl
end
section
variable {L : Nat → Option TI} {Γ : Oracle}
theorem h_step {rd : Option (List Nat)} {V : Pol} {f tag next d : Nat} {env : List (Nat × AV)} {heap hs hr heap' : List (Nat × Blk)} {args args' : List AV} {wl : List (AV × Nat)} {pk bk : Pk} {ks ns k1s k2s roots : List Nat} {l r : List (Option (List AV))} {v v' : AV} {κ : AV → St → Ans}
  (h0 : rootsAt 0 args = wl) (h1 : visit rd V ⟨env, heap, next, tag⟩ (tag + 1, 0) 200 wl [] = some pk) (g1 : pk.map (·.1) = ks) (g2 : pk.map (·.2.2.1) = ns) (h2 : keysOk ks ns = true) (h3 : packed (.inn tag) ⟨env, heap, next, tag⟩ pk pk = some l) (h4 : renL (.inn tag) pk args = args')
  (hc : Γ (f + 1000000000) (tag + 1) (.mapd [] [] :: args') l = some (v, r)) (h5 : rootKeys args' = roots)
  (h6 : backPk ⟨env, heap, next, tag⟩ d (tag + 1) pk roots r = some bk) (g3 : bk.map (·.1) = k1s) (g4 : bk.map (·.2.2.1) = k2s) (h7 : (k2s.all (okKey rd) && keysOk k1s k2s) = true) (h8 : backOk ⟨env, heap, next, tag⟩ roots bk r = true)
  (h9 : backHeap (.out tag) bk bk r = hs) (h12 : stays ks k2s heap = hr) (h13 : hs ++ hr = heap') (h14 : ren (.out tag) bk v = v') :
  hX rd V Γ ⟨env, heap, next, tag⟩ d f args κ = κ v' ⟨env, heap', next + 1, tag⟩ := by
 subst h0
 rw [zee] at h4
 rw [qO5] at h7
 subst h5
 have h15 := zg0 g3 g4 h7.2
 subst g4 g1
 exact h_call h1 (zg0 rfl g2 h2) h3 h4 hc h6 (by rw [h7.1, h15, h8]; rfl) (by rw [h9]; exact (congrArg (hs ++ ·) h12).trans h13) h14
theorem y_step {rd : Option (List Nat)} {y : YInfo} {tag next d : Nat} {env : List (Nat × AV)} {heap hs hr heap' : List (Nat × Blk)} {args args' : List AV} {wl : List (AV × Nat)} {pk bk : Pk} {ks ns k1s k2s roots : List Nat} {l r : List (Option (List AV))} {v v' : AV} {κ : AV → St → Ans}
  (h0 : rootsAt 250000 args = wl) (h1 : visit rd .all ⟨env, heap, next, tag⟩ (tag + 1, 0) 200 wl [] = some pk) (g1 : pk.map (·.1) = ks) (g2 : pk.map (·.2.2.1) = ns) (h2 : keysOk ks ns = true) (h3 : packed (.inn tag) ⟨env, heap, next, tag⟩ pk pk = some l) (h4 : renL (.inn tag) pk args = args')
  (hc : Γ (y.num + 1000000000) (tag + 1) (.mapd [.nilM] [] :: .yld y [] :: args') l = some (v, r)) (h5 : rootKeys args' = roots)
  (h6 : backPk ⟨env, heap, next, tag⟩ d (tag + 1) pk roots r = some bk) (g3 : bk.map (·.1) = k1s) (g4 : bk.map (·.2.2.1) = k2s) (h7 : (k2s.all (okKey rd) && keysOk k1s k2s) = true) (h8 : backOk ⟨env, heap, next, tag⟩ roots bk r = true)
  (h9 : backHeap (.out tag) bk bk r = hs) (h12 : stays ks k2s heap = hr) (h13 : hs ++ hr = heap') (h14 : ren (.out tag) bk v = v') :
  hGX 250000 [.mapd [.nilM] [], .yld y []] (y.num + 1000000000) rd .all Γ ⟨env, heap, next, tag⟩ d args κ = κ v' ⟨env, heap', next + 1, tag⟩ := by
 subst h0
 rw [zee] at h4
 rw [qO5] at h7
 subst h5
 have h15 := zg0 g3 g4 h7.2
 subst g4 g1
 exact h_callG h1 (zg0 rfl g2 h2) h3 h4 hc h6 (by rw [h7.1, h15, h8]; rfl) (by rw [h9]; exact (congrArg (hs ++ ·) h12).trans h13) h14
theorem getAll_nil {st : St} : getAll L st [] = some [] := rfl
theorem getAll_tmp {st : St} {k : Nat} {ks : List ResultVar} {v : AV} {vs : List AV} (h : aget k st.env = some v) (h1 : getAll L st ks = some vs) : getAll L st (.tmp k :: ks) = some (v :: vs) := by
 simp only [getAll, getRes, h, h1, Option.getD_some, qO2, Option.map_some]
theorem zqd {st : St} {k t : Nat} {ks : List ResultVar} {a v : AV} {vs : List AV} {i : TI} (hL : L t = some i) (h : aget k st.env = some a) (hl : aLoad i st a = some v) (h1 : getAll L st ks = some vs) : getAll L st (.cell k t :: ks) = some (v :: vs) := by
 simp only [getAll, getRes, hL, h, hl, h1, Option.getD_some, qO2, Option.map_some]
theorem fin_step {rs : List ResultVar} {e : Ex} {tag next : Nat} {env : List (Nat × AV)} {heap : List (Nat × Blk)} {args gs gs' : List AV} {wl wl' w : List (AV × Nat)} {pk : Pk} {r : List (Option (List AV))} {v : AV} {mat : List (Nat × Nat × Nat × Nat)} (hm0 : mat = []) (he : e = .ret ∨ e = .normal)
  (h0 : getAll L ⟨env, heap, next, tag⟩ rs = some gs) (ha : rootsAt 0 args = wl) (hb : rootsAt 400000 gs = wl') (hw : wl ++ wl' = w) (h1 : visit none .all ⟨env, heap, next, tag⟩ (tag, 0) 200 w [] = some pk)
  {ks ns : List Nat} (g1 : pk.map (·.1) = ks) (g2 : pk.map (·.2.2.1) = ns) (h2 : keysOk ks ns = true) {roots : List Nat} (h7 : rootKeys args = roots) (h5 : roots.all (fun k => look k (tag, 0) pk == some (k, (tag, 0))) = true) (h3 : packed .plain ⟨env, heap, next, tag⟩ pk pk = some r) (h4 : renL .plain pk gs = gs') (h6 : oneOrTup gs' = v) :
  finMX L mat rs tag args e ⟨env, heap, next, tag⟩ = some (v, r) := by
 subst hm0
 rw [zoe]
 subst ha hb hw h6 h7
 rw [zee] at h4
 subst h4
 exact fin_h he h0 h1 (by rw [zg0 g1 g2 h2, h5]; rfl) h3 rfl
theorem fin_stepM {rs : List ResultVar} {e : Ex} {tag next : Nat} {env : List (Nat × AV)} {heap : List (Nat × Blk)} {args gs gs' : List AV} {wl wl' w : List (AV × Nat)} {pk : Pk} {r : List (Option (List AV))} {v : AV} {mat : List (Nat × Nat × Nat × Nat)} {gs0 vs : List AV} {heap0 : List (Nat × Blk)} {next0 : Nat} (he : e = .ret ∨ e = .normal)
  (h00 : getAll L ⟨env, heap0, next0, tag⟩ rs = some gs0) (hvs : args ++ gs0 = vs) (hmt : matAll vs mat ⟨env, heap0, next0, tag⟩ = ⟨env, heap, next, tag⟩)
  (h0 : getAll L ⟨env, heap, next, tag⟩ rs = some gs) (ha : rootsAt 0 args = wl) (hb : rootsAt 400000 gs = wl') (hw : wl ++ wl' = w) (h1 : visit none .all ⟨env, heap, next, tag⟩ (tag, 0) 200 w [] = some pk)
  {ks ns : List Nat} (g1 : pk.map (·.1) = ks) (g2 : pk.map (·.2.2.1) = ns) (h2 : keysOk ks ns = true) {roots : List Nat} (h7 : rootKeys args = roots) (h5 : roots.all (fun k => look k (tag, 0) pk == some (k, (tag, 0))) = true) (h3 : packed .plain ⟨env, heap, next, tag⟩ pk pk = some r) (h4 : renL .plain pk gs = gs') (h6 : oneOrTup gs' = v) :
  finMX L mat rs tag args e ⟨env, heap0, next0, tag⟩ = some (v, r) := by
 subst hvs
 rw [finMX_mat h00 hmt]
 subst ha hb hw h6 h7
 rw [zee] at h4
 subst h4
 exact fin_h he h0 h1 (by rw [zg0 g1 g2 h2, h5]; rfl) h3 rfl
end
def refsOf (cs : List AV) : List Nat := cs.filterMap fun c => (refOf c).map (·.1)
theorem rk_nil : rootKeys [] = [] := rfl
theorem rk_ref (k : Nat) (g : Nat × Nat) (o : Nat) (vs : List AV) : rootKeys (.ref k g o :: vs) = k :: rootKeys vs := rfl
theorem rk_msl (k : Nat) (g : Nat × Nat) (z o n : Nat) (vs : List AV) : rootKeys (.msl k g z o n :: vs) = k :: rootKeys vs := rfl
theorem rk_mref (k : Nat) (g : Nat × Nat) (vs : List AV) : rootKeys (.mref k g :: vs) = k :: rootKeys vs := rfl
theorem rk_fn (f : Nat) (cs vs : List AV) : rootKeys (.fn f cs :: vs) = refsOf cs ++ rootKeys vs := rfl
theorem rk_yld (y : YInfo) (cs vs : List AV) : rootKeys (.yld y cs :: vs) = refsOf cs ++ rootKeys vs := rfl
theorem rk_agg (cs vs : List AV) : rootKeys (.agg cs :: vs) = refsOf cs ++ rootKeys vs := rfl
theorem rf_nil : refsOf [] = [] := rfl
theorem rf_ref (k : Nat) (g : Nat × Nat) (o : Nat) (cs : List AV) : refsOf (.ref k g o :: cs) = k :: refsOf cs := rfl
theorem rf_msl (k : Nat) (g : Nat × Nat) (z o n : Nat) (cs : List AV) : refsOf (.msl k g z o n :: cs) = k :: refsOf cs := rfl
theorem rf_mref (k : Nat) (g : Nat × Nat) (cs : List AV) : refsOf (.mref k g :: cs) = k :: refsOf cs := rfl
theorem rf_one {c : AV} (h : c.shut = true) (cs : List AV) : refsOf (c :: cs) = refsOf cs := by cases c <;> simp [AV.shut] at h <;> rfl
theorem rf_app (a b : List AV) : refsOf (a ++ b) = refsOf a ++ refsOf b := by simp [refsOf]
theorem zll {cs : List AV} (h : shutL cs = true) : refsOf cs = [] := by
 induction cs with
 | nil => rfl
 | cons c cs ih =>
  rw [zc9, qO5] at h
  rw [rf_one h.1, ih h.2]
theorem rk_shut {v : AV} (h : v.shut = true) (vs : List AV) : rootKeys (v :: vs) = rootKeys vs := by
 cases v <;> simp [AV.shut] at h <;> first | rfl | (rename_i cs; exact congrArg (· ++ rootKeys vs) (zll h)) | (rename_i f cs; exact congrArg (· ++ rootKeys vs) (zll h))
theorem zpi {tag : Nat} {pk : Pk} : ([] : List Nat).all (fun k => look k (tag, 0) pk == some (k, (tag, 0))) = true := rfl
theorem all_cons {tag k : Nat} {ks : List Nat} {pk : Pk} (h : look k (tag, 0) pk = some (k, (tag, 0))) (h1 : ks.all (fun k => look k (tag, 0) pk == some (k, (tag, 0))) = true) :
  (k :: ks).all (fun k => look k (tag, 0) pk == some (k, (tag, 0))) = true := by
 simp only [List.all_cons, h, h1, beq_self_eq_true, Bool.and_self]
theorem za8 {L : Nat → Option TI} {T : Nat → Option Entry} {f : Nat} {a : AFn} (h : T f = some (.hcode a)) {tag : Nat} {args : List AV} {lent : List (Option (List AV))} {env : List (Nat × AV)} {heap : List (Nat × Blk)}
  (h1 : args.length = a.np) (he : argEnv 0 args = env) (hh : hHeap tag lent = heap) :
  callω L T f tag (.mapd [] [] :: args) lent = ex ⟨L, a.ann, callω L T, a.np, a.frz, a.results, []⟩ a.body ⟨env, heap, 1, tag⟩ (finMX L a.ann.mat a.results tag args) := by
 subst he hh
 exact call_exh h h1
theorem znh {F : Fx} {a : Code} {κ : Ex → St → Ans} {X : Type} (I : Nat → X → Prop) (S : Nat → X → St) (n : Nat) (out : Nat → X → Ans)
  (h : ∀ k x, k < n → I k x → (∀ y, I (k + 1) y → headX F a (S (k + 1) y) κ = out (k + 1) y) → ex F a (S k x) (seqK (loopX F a) κ) = out k x)
  (hn : ∀ x, I n x → ex F a (S n x) (seqK (loopX F a) κ) = out n x) (k : Nat) (hk : k ≤ n) (x : X) (hx : I k x) : headX F a (S k x) κ = out k x := by
 have H : ∀ m k x, k + m = n → I k x → headX F a (S k x) κ = out k x := by
  intro m
  induction m with
  | zero => intro k x hk hx; obtain rfl : k = n := by omega
            rw [zad, hn x hx]
  | succ m ih => intro k x hk hx; rw [zad, h k x (by omega) hx fun y hy => ih (k + 1) y (by omega) hy]
 exact H (n - k) k x (by omega) hx
theorem key_eq {k k' : Nat} {κ : Nat → Ans} (h : k = k') : keyX k κ = κ k' := by rw [keyX, h]
theorem mkB {a b : Bool} (h : a = b) : a = b := h
theorem shs : type_of% (And.intro free_isl <| And.intro free_ipt <| And.intro free_agg <| And.intro free_fn <| And.intro free_yld <| And.intro zn1 <| And.intro free_imp <| And.intro zdc <| And.intro zki <| And.intro zdo <| And.intro zcd <| And.intro zmi <| And.intro zne <| And.intro zmv <| And.intro zke <| And.intro @znu <| And.intro shut_yld <| And.intro shut_imp <| And.intro zna <| And.intro shut_isl <| And.intro shut_agg <| And.intro shut_ipt <| And.intro shut_fn <| And.intro zmr <| And.intro zc9 <| And.intro znp <| And.intro zof <| And.intro zmj <| And.intro zkt <| And.intro @zny <| And.intro Bool.and_true <| And.intro Bool.true_and Bool.and_self) :=
 And.intro free_isl <| And.intro free_ipt <| And.intro free_agg <| And.intro free_fn <| And.intro free_yld <| And.intro zn1 <| And.intro free_imp <| And.intro zdc <| And.intro zki <| And.intro zdo <| And.intro zcd <| And.intro zmi <| And.intro zne <| And.intro zmv <| And.intro zke <| And.intro @znu <| And.intro shut_yld <| And.intro shut_imp <| And.intro zna <| And.intro shut_isl <| And.intro shut_agg <| And.intro shut_ipt <| And.intro shut_fn <| And.intro zmr <| And.intro zc9 <| And.intro znp <| And.intro zof <| And.intro zmj <| And.intro zkt <| And.intro @zny <| And.intro Bool.and_true <| And.intro Bool.true_and Bool.and_self
theorem pls : type_of% (And.intro pw_nil <| And.intro @pw_shutL <| And.intro @zot <| And.intro @pw_out <| And.intro @pw_in <| And.intro pw_app <| And.intro zk5 <| And.intro @zh3 <| And.intro @zkm <| And.intro @zjo <| And.intro zkr <| And.intro nest.eq_1 <| And.intro (@List.nil_append (AV × Nat)) <| And.intro (@List.cons_append (AV × Nat)) <| And.intro (@List.append_nil (AV × Nat)) <| And.intro (@List.length_cons AV) (@List.length_nil AV)) :=
 And.intro pw_nil <| And.intro @pw_shutL <| And.intro @zot <| And.intro @pw_out <| And.intro @pw_in <| And.intro pw_app <| And.intro zk5 <| And.intro @zh3 <| And.intro @zkm <| And.intro @zjo <| And.intro zkr <| And.intro nest.eq_1 <| And.intro (@List.nil_append (AV × Nat)) <| And.intro (@List.cons_append (AV × Nat)) <| And.intro (@List.append_nil (AV × Nat)) <| And.intro (@List.length_cons AV) (@List.length_nil AV)
theorem kds : type_of% (And.intro @kids_yld <| And.intro @kids_imp <| And.intro @kids_isl <| And.intro @kids_ipt <| And.intro @kids_agg <| And.intro @kids_tup <| And.intro @kids_fn <| And.intro @zn2 @kids_fsl) :=
 And.intro @kids_yld <| And.intro @kids_imp <| And.intro @kids_isl <| And.intro @kids_ipt <| And.intro @kids_agg <| And.intro @kids_tup <| And.intro @kids_fn <| And.intro @zn2 @kids_fsl
theorem rns : type_of% (And.intro @ren_yld <| And.intro @ren_imp <| And.intro @ren_isl <| And.intro @ren_ipt <| And.intro @zmd <| And.intro @ziu <| And.intro @renL_app <| And.intro @renL_inn <| And.intro @ren_inn <| And.intro @renL_out <| And.intro @ren_out <| And.intro @renL_pl <| And.intro @ren_pl <| And.intro @renS_out <| And.intro renU_inn <| And.intro renU_out <| And.intro zka <| And.intro zk9 <| And.intro @ren_veil <| And.intro @ren_fsl <| And.intro @ren_agg <| And.intro @ren_tup <| And.intro @ren_fn <| And.intro @ren_mapd <| And.intro @ren_ref <| And.intro @ren_msl <| And.intro @ren_mref <| And.intro zkb <| And.intro zkl <| And.intro zi9 <| And.intro zgr @zf1) :=
 And.intro @ren_yld <| And.intro @ren_imp <| And.intro @ren_isl <| And.intro @ren_ipt <| And.intro @zmd <| And.intro @ziu <| And.intro @renL_app <| And.intro @renL_inn <| And.intro @ren_inn <| And.intro @renL_out <| And.intro @ren_out <| And.intro @renL_pl <| And.intro @ren_pl <| And.intro @renS_out <| And.intro renU_inn <| And.intro renU_out <| And.intro zka <| And.intro zk9 <| And.intro @ren_veil <| And.intro @ren_fsl <| And.intro @ren_agg <| And.intro @ren_tup <| And.intro @ren_fn <| And.intro @ren_mapd <| And.intro @ren_ref <| And.intro @ren_msl <| And.intro @ren_mref <| And.intro zkb <| And.intro zkl <| And.intro zi9 <| And.intro zgr @zf1
theorem rks : type_of% (And.intro rk_yld <| And.intro rk_nil <| And.intro rk_ref <| And.intro rk_msl <| And.intro rk_mref <| And.intro rk_fn <| And.intro rk_agg <| And.intro rf_nil <| And.intro rf_ref <| And.intro rf_msl <| And.intro rf_mref <| And.intro @rf_one <| And.intro rf_app <| And.intro @zll <| And.intro @rk_shut <| And.intro (@List.nil_append Nat) <| And.intro (@List.cons_append Nat) (@List.append_nil Nat)) :=
 And.intro rk_yld <| And.intro rk_nil <| And.intro rk_ref <| And.intro rk_msl <| And.intro rk_mref <| And.intro rk_fn <| And.intro rk_agg <| And.intro rf_nil <| And.intro rf_ref <| And.intro rf_msl <| And.intro rf_mref <| And.intro @rf_one <| And.intro rf_app <| And.intro @zll <| And.intro @rk_shut <| And.intro (@List.nil_append Nat) <| And.intro (@List.cons_append Nat) (@List.append_nil Nat)
theorem lks : type_of% (And.intro zi9 <| And.intro zgr @zf1) := And.intro zi9 <| And.intro zgr @zf1
mutual
def AV.still : AV → Bool
 | .ref .. | .msl .. | .mref .. | .fsl .. | .tup _ | .fn _ _ | .yld _ _ | .mapd _ _ => false
 | .isl _ _ cs | .ipt cs | .agg cs => stillL cs
 | .imp ks vs => stillL ks && stillL vs
 | .junk | .bool _ | .int .. | .str _ | .nilp | .nsl | .nilI | .nilF | .nilM | .gref _ | .err _ | .veil .. => true
def stillL : List AV → Bool
 | [] => true
 | c :: cs => c.still && stillL cs
end
mutual
theorem zh2 : ∀ {v : AV}, v.still = true → v.shut = true
 | .isl _ _ cs, h => zcm (cs := cs) h
 | .ipt cs, h => zcm (cs := cs) h
 | .agg cs, h => zcm (cs := cs) h
 | .imp ks vs, h => by
  rw [AV.still, qO5] at h
  rw [AV.shut, zcm h.1, zcm h.2]; rfl
 | .junk, _ | .bool _, _ | .int _ _, _ | .str _, _ | .nilp, _ | .nsl, _ | .nilI, _ | .nilF, _ | .nilM, _ | .gref _, _ | .err _, _ | .veil _ _, _ => rfl
 | .ref .., h | .msl .., h | .mref .., h | .fsl .., h | .tup _, h | .fn _ _, h | .yld _ _, h | .mapd _ _, h => by simp [AV.still] at h
theorem zcm : ∀ {cs : List AV}, stillL cs = true → shutL cs = true
 | [], _ => rfl
 | c :: cs, h => by
  rw [stillL, qO5] at h
  rw [shutL, zh2 h.1, zcm h.2]; rfl
end
section
variable {rd : Option (List Nat)} {st : St}
mutual
theorem zl3 : ∀ {n : Nat} {v : AV}, v.still = true → view rd st n v = v
 | 0, v, h => by rw [view, if_pos (zh2 h)]
 | n + 1, .isl z m cs, h => by simp only [view]; rw [zbq (n := n) (cs := cs) h]
 | n + 1, .ipt cs, h => by simp only [view]; rw [zbq (n := n) (cs := cs) h]
 | n + 1, .agg cs, h => by simp only [view]; rw [zbq (n := n) (cs := cs) h]
 | n + 1, .imp ks vs, h => by
  rw [AV.still, qO5] at h
  simp only [view]; rw [zbq (n := n) h.1, zbq (n := n) h.2]
 | n + 1, .junk, _ | n + 1, .bool _, _ | n + 1, .int _ _, _ | n + 1, .str _, _ | n + 1, .nilp, _ | n + 1, .nsl, _ | n + 1, .nilI, _ | n + 1, .nilF, _ | n + 1, .nilM, _ | n + 1, .gref _, _ | n + 1, .err _, _ | n + 1, .veil _ _, _ => by simp only [view]
 | n + 1, .ref .., h | n + 1, .msl .., h | n + 1, .mref .., h | n + 1, .fsl .., h | n + 1, .tup _, h | n + 1, .fn _ _, h | n + 1, .yld _ _, h | n + 1, .mapd _ _, h => by simp [AV.still] at h
theorem zbq : ∀ {n : Nat} {cs : List AV}, stillL cs = true → viewL rd st n cs = cs
 | _, [], _ => by simp only [viewL]
 | 0, c :: cs, h => by
  rw [stillL, qO5] at h
  rw [viewL, if_pos (zh2 h.1), zbq h.2]
 | n + 1, c :: cs, h => by
  rw [stillL, qO5] at h
  rw [viewL, zl3 h.1, zbq h.2]
end
theorem vl_nil {n : Nat} : viewL rd st n [] = [] := by simp only [viewL]
theorem vl_cons {n : Nat} {v v' : AV} {vs vs' : List AV} (hvw : view rd st (n + 1) v = v') (hvw1 : viewL rd st (n + 1) vs = vs') : viewL rd st (n + 1) (v :: vs) = v' :: vs' := by rw [viewL, hvw, hvw1]
theorem vl_map {n : Nat} (vs : List AV) : viewL rd st (n + 1) vs = vs.map (view rd st (n + 1)) := by
 induction vs with
 | nil => exact vl_nil
 | cons v vs ih => rw [viewL, ih]; rfl
theorem vl_app {n : Nat} {a b a' b' : List AV} (hvw : viewL rd st n a = a') (hvw1 : viewL rd st n b = b') : viewL rd st n (a ++ b) = a' ++ b' := by
 subst hvw; subst hvw1
 cases n with
 | succ n => simp only [vl_map, List.map_append]
 | zero =>
  induction a with
  | nil => simp only [List.nil_append, vl_nil]
  | cons c a ih => simp only [List.cons_append, viewL, ih]
theorem vw_ref {n k o : Nat} {g : Nat × Nat} {cells c c' : List AV} (hk : okKey rd k = true) (hb : cellsAt k st.heap = some ⟨g, cells⟩) (hle : o ≤ cells.length) (hc : cells.drop o = c) (hvw : viewL rd st n c = c') : view rd st (n + 1) (.ref k g o) = .ipt c' := by
 obtain ⟨hvw1, h2⟩ := zdi hb
 simp only [view, hk, blkOf, hvw1, h2, Bool.not_true, Bool.false_eq_true, if_false, if_true, hle, hc, hvw]
theorem vw_msl {n k o z m : Nat} {g : Nat × Nat} {cells c c' : List AV} (hk : okKey rd k = true) (hb : cellsAt k st.heap = some ⟨g, cells⟩) (hle : o + m * z ≤ cells.length) (hc : (cells.drop o).take (m * z) = c) (hvw : viewL rd st n c = c') :
  view rd st (n + 1) (.msl k g z o m) = .isl z m c' := by
 obtain ⟨hvw1, h2⟩ := zdi hb
 simp only [view, hk, blkOf, hvw1, h2, Bool.not_true, Bool.false_eq_true, if_false, if_true, hle, hc, hvw]
theorem vw_mref {n k : Nat} {g : Nat × Nat} {ks vs ks' vs' : List AV} (hk : okKey rd k = true) (hm : isMapKey k = true) (hb : aget k st.heap = some ⟨g, [.mapd ks vs]⟩) (hvw : viewL rd st n ks = ks') (hvw1 : viewL rd st n vs = vs') :
  view rd st (n + 1) (.mref k g) = .imp ks' vs' := by
 have : mapOf st k g = some (ks, vs) := by simp only [mapOf, hm, hb, if_true]
 simp only [view, hk, this, Bool.not_true, Bool.false_eq_true, if_false, hvw, hvw1]
theorem vw_isl {n z m : Nat} {cs cs' : List AV} (hvw : viewL rd st n cs = cs') : view rd st (n + 1) (.isl z m cs) = .isl z m cs' := by simp only [view, hvw]
theorem vw_fsl {n z m : Nat} {cs : List AV} : view rd st (n + 1) (.fsl z m cs) = .isl z m cs := by simp only [view]
theorem vw_ipt {n : Nat} {cs cs' : List AV} (hvw : viewL rd st n cs = cs') : view rd st (n + 1) (.ipt cs) = .ipt cs' := by simp only [view, hvw]
theorem vw_agg {n : Nat} {cs cs' : List AV} (hvw : viewL rd st n cs = cs') : view rd st (n + 1) (.agg cs) = .agg cs' := by simp only [view, hvw]
theorem vw_imp {n : Nat} {ks vs ks' vs' : List AV} (hvw : viewL rd st n ks = ks') (hvw1 : viewL rd st n vs = vs') : view rd st (n + 1) (.imp ks vs) = .imp ks' vs' := by simp only [view, hvw, hvw1]
theorem vw_fn {n f : Nat} {cs : List AV} : view rd st (n + 1) (.fn f cs) = .junk := by simp only [view]
theorem v_step {Γ : Oracle} {own : Bool} {f tag next d : Nat} {env : List (Nat × AV)} {heap : List (Nat × Blk)} {args args' : List AV} {ns ms : List (Option (List AV))} {v : AV} {κ : AV → St → Ans}
  (h1 : viewL rd ⟨env, heap, next, tag⟩ 12 args = args') (h2 : args.map (fun _ => (none : Option (List AV))) = ns) (hc : Γ f (tag + 1) args' ns = some (v, ms)) :
  vX rd own Γ ⟨env, heap, next, tag⟩ d f args κ = adoptX own ⟨env, heap, next, tag⟩ d v κ := v_call ((vl_map args).symm.trans h1) h2 hc
end
theorem zkq : stillL [] = true := rfl
theorem ze9 (c : AV) (cs : List AV) : stillL (c :: cs) = (c.still && stillL cs) := rfl
theorem zkw (a b : List AV) : stillL (a ++ b) = (stillL a && stillL b) := by
 induction a with
 | nil => rfl
 | cons c a ih => simp only [List.cons_append, ze9, ih, Bool.and_assoc]
theorem zci {cs : List AV} (h : ∀ c ∈ cs, c.still = true) : stillL cs = true := by
 induction cs with
 | nil => rfl
 | cons c cs ih => simp only [ze9, h c (by simp), ih fun x hx => h x (by simp [hx]), Bool.and_self]
theorem zc5 {c : AV} (h : c.plain = true) : c.still = true := by cases c <;> simp [AV.plain] at h <;> rfl
theorem zh1 {α : Type} (f : α → AV) (h : ∀ x, (f x).still = true) (l : List α) : stillL (l.map f) = true := zci fun c hc => by
 obtain ⟨x, _, rfl⟩ := List.mem_map.1 hc
 exact h x
theorem zl1 (l : List ByteArray) : stillL (l.map .str) = true := zh1 _ (fun _ => rfl) l
theorem zky (k : IntKind) (l : List Int) : stillL (l.map (.int k)) = true := zh1 _ (fun _ => rfl) l
theorem zjg (l : List Bool) : stillL (l.map .bool) = true := zh1 _ (fun _ => rfl) l
theorem zko (n : Nat) (c : AV) (h : c.still = true) : stillL (List.replicate n c) = true := zci fun x hx => by rw [List.eq_of_mem_replicate hx]; exact h
theorem zoa (z n : Nat) (cs : List AV) : (AV.isl z n cs).still = stillL cs := rfl
theorem zn0 (cs : List AV) : (AV.ipt cs).still = stillL cs := rfl
theorem zon (cs : List AV) : (AV.agg cs).still = stillL cs := rfl
theorem znj (ks vs : List AV) : (AV.imp ks vs).still = (stillL ks && stillL vs) := rfl
theorem sts : type_of% (And.intro zoa <| And.intro zn0 <| And.intro zon <| And.intro znj <| And.intro zkq <| And.intro ze9 <| And.intro zkw <| And.intro zl1 <| And.intro zky <| And.intro zjg <| And.intro @zko <| And.intro Bool.and_true <| And.intro Bool.true_and Bool.and_self) :=
 And.intro zoa <| And.intro zn0 <| And.intro zon <| And.intro znj <| And.intro zkq <| And.intro ze9 <| And.intro zkw <| And.intro zl1 <| And.intro zky <| And.intro zjg <| And.intro @zko <| And.intro Bool.and_true <| And.intro Bool.true_and Bool.and_self
def finY (tag : Nat) (args : List AV) (e : Ex) (st : St) : Ans := match e with
 | .normal => do
  let pk ← visit none .all st (tag, 0) 200 (rootsAt 250000 args) []
  if st.env.all (fun p => p.2.calm) && (pkOk pk && st.tag == tag && (rootKeys args).all (fun k => look k (tag, 0) pk == some (k, (tag, 0)))) then
   let r ← packed .plain st pk pk
   some (.bool true, r)
  else none
 | _ => none
noncomputable def midY (F : Fx) (body : Code) (κ : Ex → St → Ans) (e : Ex) (st : St) : Ans := match e with
 | .normal => match st.env.all (fun p => p.2.calm) with
  | true => ex F body st κ
  | false => none
 | _ => none
noncomputable abbrev callY (L : Nat → Option TI) (T : Nat → Option Entry) (y : YInfo) (tag : Nat) (args : List AV) (lent : List (Option (List AV))) : Option (AV × List (Option (List AV))) := callω L T (y.num + 1000000000) tag (.mapd [.nilM] [] :: .yld y [] :: args) lent
theorem call_exY {L : Nat → Option TI} {T : Nat → Option Entry} {f : Nat} {y : YInfo} {K : Ann} (h : T f = some (.ycode y K)) {tag : Nat} {args : List AV} {lent : List (Option (List AV))} {env : List (Nat × AV)} {heap : List (Nat × Blk)} {assign body : Code}
  (h1 : args.length = y.ps.length + y.slots.length) (ha : y.assign = assign) (hbd : y.body = body) (he : yEnv y args = env) (hh : hHeap tag lent = heap) :
  callω L T f tag (.mapd [.nilM] [] :: .yld y [] :: args) lent = ex ⟨L, K, callω L T, 0, [], [], []⟩ assign ⟨env, heap, 1, tag⟩ (midY ⟨L, K, callω L T, 0, [], [], []⟩ body (finY tag args)) := by
 subst ha hbd he hh
 rw [zpv h, ex_eq, runFnY, if_pos h1]
 cases den loopω L K (callω L T) y.assign ⟨yEnv y args, hHeap tag lent, 1, tag⟩ with
 | none => rfl
 | some p =>
  obtain ⟨e, s⟩ := p
  cases e with
  | normal =>
   simp only [qO2, midY]
   cases hc : s.env.all (fun p => p.2.calm) with
   | false => rfl
   | true =>
    simp only [if_true]
    rw [ex_eq]
    cases den loopω L K (callω L T) y.body s with
    | none => rfl
    | some q => obtain ⟨e2, s2⟩ := q; cases e2 <;> rfl
  | exit i => rfl
  | ret => rfl
theorem fin_y {tag next : Nat} {env : List (Nat × AV)} {heap : List (Nat × Blk)} {args : List AV} {wl : List (AV × Nat)} {pk : Pk} {r : List (Option (List AV))} (hcalm : env.all (fun p => p.2.calm) = true)
  (ha : rootsAt 250000 args = wl) (h1 : visit none .all ⟨env, heap, next, tag⟩ (tag, 0) 200 wl [] = some pk)
  {ks ns : List Nat} (g1 : pk.map (·.1) = ks) (g2 : pk.map (·.2.2.1) = ns) (h2 : keysOk ks ns = true) {roots : List Nat} (h7 : rootKeys args = roots) (h5 : roots.all (fun k => look k (tag, 0) pk == some (k, (tag, 0))) = true) (h3 : packed .plain ⟨env, heap, next, tag⟩ pk pk = some r) :
  finY tag args .normal ⟨env, heap, next, tag⟩ = some (.bool true, r) := by
 subst ha h7
 simp only [finY, h1, hcalm, zg0 g1 g2 h2, h5, h3, qO3, qO2, beq_self_eq_true, Bool.and_self, if_true]
theorem ex_range {F : Fx} {g : Operand} {ps : Array Tmp} {assign body : Code} {st : St} {κ : Ex → St → Ans} {f d r : Nat} {caps cells : List AV} {y : YInfo} (hg : ∀ κ', opX st g κ' = κ' (.fn f caps)) (hr : firstRegion assign = r) (hy : aget r F.K.ys = some y)
  (h1 : y.ps = ps.toList ∧ y.assign = assign ∧ y.body = body ∧ y.nt = F.K.nt) (hd : y.ps.headD 0 = d) (h2 : (y.slots.map fun k => (aget k st.env).getD .junk) = cells) (h3 : cells.all AV.cap = true) (h4 : st.env.all (fun p => p.2.calm) = true) :
  ex F (.rangeFunc g ps assign body) st κ = hX none .all F.Γ st d f (.yld y cells :: caps) fun _ st' => κ .normal st' := by
 subst hr hd h2
 have hg' : operand st g = .fn f caps := by
  have := hg fun v => some (v, [])
  rw [opX_eq] at this
  simpa using this
 simp only [ex, den, hg', hy]
 rw [if_pos ⟨h1, h3, h4⟩, hX_eq]
 cases hCall none .all F.Γ st (y.ps.headD 0) f (.yld y (y.slots.map fun k => (aget k st.env).getD .junk) :: caps) <;> rfl
end Go.Sim
end
section
namespace Go.Sim
open Go
@[irreducible] def exI (L : Nat → Option TI) (K : Ann) (Γ : Oracle) (st : St) (d ty : Nat) (op : Op) (κ : AV → St → Ans) : Ans := exOp L K Γ st d ty op κ
section
variable {L : Nat → Option TI} {K : Ann} {Γ : Oracle} {st : St} {d ty t : Nat} {κ : AV → St → Ans}
theorem zcw {op : Op} : exI L K Γ st d ty op κ = exOp L K Γ st d ty op κ := by unfold exI; rfl
theorem zq4 {i : TI} {fs : List (Nat × Nat)} {ps : List (Nat × Operand)} (hL : L t = some i) (hd : i.desc = .strct fs) :
  exI L K Γ st d ty (.build t ps.toArray) κ = partsX st ps fun pv => normX i.zero fun z => fillX (plX L fs) z pv fun cs => κ (.agg cs) st := zcw.trans (op_build_s hL hd)
theorem zou {i j : TI} {n e : Nat} {ps : List (Nat × Operand)} (hL : L t = some i) (hd : i.desc = .arr n e) (hj : L e = some j) :
  exI L K Γ st d ty (.build t ps.toArray) κ = partsX st ps fun pv => normX i.zero fun z => fillX (fun k => some (k * j.size, j.size)) z pv fun cs => κ (.agg cs) st := zcw.trans (op_build_a hL hd hj)
theorem zk3 {i e : TI} {x n : Nat} {ps : List (Nat × Operand)} (hL : L t = some i) (hd : i.desc = .slice x) (hj : L x = some e) (hc : n * e.size ≤ 16777216 ∧ e.zero.length = e.size ∧ 0 < e.size) :
  exI L K Γ st d ty (.buildSlice t n ps.toArray) κ = partsX st ps fun pv => normX (repl n e.zero) fun z => fillX (fun k => some (k * e.size, e.size)) z pv fun cs => newX st d cs fun g st' => κ (.msl d g e.size 0 n) st' := zcw.trans (zme hL hd hj hc)
theorem opi_call {c : Call} {g : Nat} {args : List Operand} {ts : List Nat} (h1 : c.callee = .value (.func g)) (h2 : c.args.toList = args) (h3 : c.argTypes.toList = ts) :
  exI L K Γ st d ty (.call c) κ = opsX st args (callK L K Γ st d g ts κ) := zcw.trans (op_call h1 h2 h3)
theorem opi_callv {c : Call} {f : Operand} {g : Nat} {args : List Operand} {ts : List Nat} {cap : List AV} (h1 : c.callee = .value f) (hf : ∀ κ', opX st f κ' = κ' (.fn g cap)) (h2 : c.args.toList = args) (h3 : c.argTypes.toList = ts) :
  exI L K Γ st d ty (.call c) κ = opsX st args fun as => joinX as cap (callK L K Γ st d g ts κ) := by
 rw [zcw]
 simp only [exOp, h1, h2, h3]
 exact hf _
theorem opi_cally {c : Call} {f : Operand} {y : YInfo} {args : List Operand} {cap : List AV} (h1 : c.callee = .value f) (hf : ∀ κ', opX st f κ' = κ' (.yld y cap)) (h2 : c.args.toList = args) (_h3 : c.argTypes.toList = c.argTypes.toList) :
  exI L K Γ st d ty (.call c) κ = opsX st args fun as => joinX as cap (yK K Γ st d y κ) := by
 rw [zcw]
 simp only [exOp, h1, h2]
 exact hf _
def fnK (f : Nat) (st : St) (κ : AV → St → Ans) (vs : List AV) : Ans := match vs.all AV.isRef with
 | true => κ (.fn f vs) st
 | false => none
theorem zns {f : Nat} {first captured : Array Operand} {args : List Operand} (h0 : Nat.beq first.size 0 = true) (h1 : captured.toList = args) :
  exI L K Γ st d ty (.makeFunc (.func f) first captured) κ = opsX st args (fnK f st κ) := by
 rw [zcw]
 simp only [exOp, h0, h1]
 rfl
theorem zpl {c : Call} {b : Builtin} {args : List Operand} {ts : List Nat} (h1 : c.callee = .builtin b) (h2 : c.args.toList = args) (h3 : c.argTypes.toList = ts) :
  exI L K Γ st d ty (.call c) κ = opsX st args (builtinK L K st d b ts κ) := zcw.trans (op_builtin h1 h2 h3)
theorem opi_alloc {e : Nat} {i : TI} {z : List AV} (hL : L e = some i) (hz : i.zero = z) :
  exI L K Γ st d ty (.alloc e) κ = newX st d z fun g st' => κ (.ref d g 0) st' := zcw.trans (op_alloc hL hz)
end
section
variable {L : Nat → Option TI} {K : Ann} {Γ : Oracle} {ops l : List Oper} {d : Nat} {op : Op} {ty : Nat} {pos : String} {after : Array Edge} {st : St} {κ : St → Ans} {v : AV} {r : Ans}
 {env env1 env2 env' : List (Nat × AV)} {heap heap' : List (Nat × Blk)} {next next' tag tag' : Nat}
theorem opsI_cons (hn : Nat.blt d K.nt = true) (h : ∀ κ' : AV → St → Ans, exI L K Γ st d ty op κ' = κ' v ⟨env1, heap', next', tag'⟩) (hp : ∀ κ', aputX d v env1 κ' = κ' env') :
  exOps L K Γ ops (⟨some d, op, ty, pos, after, none⟩ :: l) st κ = exOps L K Γ ops l ⟨env', heap', next', tag'⟩ κ := ops_cons hn (fun κ' => zcw.symm.trans (h κ')) hp
theorem opsI_cons0 (hn : Nat.blt 0 K.nt = true) (h : ∀ κ' : AV → St → Ans, exI L K Γ st 0 ty op κ' = κ' v ⟨env', heap', next', tag'⟩) :
  exOps L K Γ ops (⟨none, op, ty, pos, after, none⟩ :: l) st κ = exOps L K Γ ops l ⟨env', heap', next', tag'⟩ κ := ops_cons0 hn (fun κ' => zcw.symm.trans (h κ'))
theorem opt_some {α : Type} {o : Option α} {v : α} {κ : α → Ans} (h : o = some v) : optX o κ = κ v := by subst h; rfl
end
theorem y1 {p : Prop} (h : p := by simp only [List.map_cons, List.map_nil]; try apply Eq.refl) : p := h
theorem y2 {p : Prop} (h : p := by simp (disch := exact mkB rfl) only [lks]; try apply Eq.refl) : p := h
theorem y3 {p : Prop} (h : p := by repeat (first | exact stays_nil | apply stays_keep (by apply Eq.refl) | apply stays_drop (by apply Eq.refl))) : p := h
theorem y4 {p : Prop} (h : p := by (first | (simp only [List.nil_append, List.cons_append, List.append_nil]; try apply Eq.refl) | apply Eq.refl)) : p := h
theorem y5 {p : Prop} (h : p := by (first | apply Eq.refl | assumption | (simp (disch := first | omega | assumption) [fA] <;> omega) | (simp <;> omega) | fail)) : p := h
theorem y6 {p : Prop} (h : p := by (first | apply Eq.refl | decide | omega | assumption | (simp (disch := first | omega | assumption) [fA] <;> omega) | (simp <;> omega))) : p := h
theorem y7 {p : Prop} (h : p := by (first | (simp (disch := exact mkB rfl) only [lks]; done) | (simp (disch := exact mkB rfl) only [lks]; try apply Eq.refl) | apply Eq.refl)) : p := h
theorem y8 {p : Prop} (h : p := by repeat (first | exact backOk_nil | refine zpp (by apply Eq.refl) (by apply Eq.refl) y5 ?_ | refine backOk_new (by apply Eq.refl) (by apply Eq.refl) ?_)) : p := h
theorem y9 {p : Prop} (h : p := by (first | apply c1 | apply c2 | apply c3 | apply c4 | apply c5 | apply c6 | apply c7 | apply c8 | apply c9 | apply c10 | apply c11 | apply c12 | apply c13 | apply c14)) : p := h
theorem y10 {p : Prop} (h : p := by repeat (first | exact getAll_nil | apply getAll_tmp (by apply Eq.refl) | apply zqd (by apply Eq.refl) (by apply Eq.refl) (by (conv => lhs; whnf); try apply Eq.refl))) : p := h
theorem y11 {p : Prop} (h : p := by repeat (first | exact backPk_nil | apply zp8 (by apply Eq.refl) (by apply Eq.refl) | apply backPk_new (by apply Eq.refl) y1 (by (conv => lhs; whnf); try apply Eq.refl))) : p := h
theorem y12 {p : Prop} (h : p := by (first | apply Eq.refl | (simp (disch := first | exact mkB rfl | assumption) only [sts, fA]; done) | (simp (disch := first | exact mkB rfl | assumption) only [sts]; done) | fail)) : p := h
theorem y13 {p : Prop} (h : p := by (first | apply Eq.refl | (simp (disch := first | omega | assumption) [-getElem?_pos, fA] <;> apply Eq.refl) | (simp (disch := first | omega | assumption) [-getElem?_pos] <;> apply Eq.refl))) : p := h
theorem y14 {p : Prop} (h : p := by (first | (simp (disch := first | omega | assumption) only [nfs, Nat.reduceAdd, Nat.reduceMul, Nat.mul_one, Nat.sub_zero, fA]; apply Eq.refl) | (simp (disch := first | omega | assumption) only [nfs, Nat.reduceAdd, Nat.reduceMul, Nat.mul_one, Nat.sub_zero]; apply Eq.refl) | apply Eq.refl)) : p := h
theorem y15 {p : Prop} (h : p := by (first | apply Eq.refl | (simp (disch := first | omega | assumption) only [nfs, Int.reduceToNat, Int.toNat_natCast, List.getElem?_drop, List.drop_drop, Nat.reduceAdd, Nat.reduceMul, Nat.zero_mul, Nat.mul_one, Nat.add_zero, fA]; apply Eq.refl) | (simp (disch := first | omega | assumption) [-getElem?_pos, fA] <;> apply Eq.refl) | (simp (disch := first | omega | assumption) [-getElem?_pos] <;> apply Eq.refl) | (simp (disch := first | omega | assumption) <;> apply Eq.refl))) : p := h
theorem y16 {p : Prop} (h : p := by (first | (simp (disch := (first | exact mkB rfl | assumption | (simp (disch := first | exact mkB rfl | assumption) only [shs, fA]; done) | (simp (disch := first | exact mkB rfl | assumption) only [shs]; done) | fail)) only [rks, fA]; try apply Eq.refl) | (simp (disch := (first | exact mkB rfl | assumption | (simp (disch := first | exact mkB rfl | assumption) only [shs, fA]; done) | (simp (disch := first | exact mkB rfl | assumption) only [shs]; done) | fail)) only [rks]; try apply Eq.refl))) : p := h
theorem y17 {p : Prop} (h : p := by (first | (first | (simp (disch := (first | exact mkB rfl | assumption | (simp (disch := first | exact mkB rfl | assumption) only [shs, fA]; done) | (simp (disch := first | exact mkB rfl | assumption) only [shs]; done) | fail)) only [rns, fA]; try apply Eq.refl) | (simp (disch := (first | exact mkB rfl | assumption | (simp (disch := first | exact mkB rfl | assumption) only [shs, fA]; done) | (simp (disch := first | exact mkB rfl | assumption) only [shs]; done) | fail)) only [rns]; try apply Eq.refl)) | apply Eq.refl)) : p := h
theorem y18 {p : Prop} (h : p := by repeat (first | exact zoo | apply zli y17)) : p := h
theorem y19 {p : Prop} (h : p := by repeat (first | exact packed_nil | apply zq7 (by apply Eq.refl) y17)) : p := h
theorem y20 {p : Prop} (h : p := by (first | (first | (simp (disch := (first | exact mkB rfl | assumption | (simp (disch := first | exact mkB rfl | assumption) only [shs, fA]; done) | (simp (disch := first | exact mkB rfl | assumption) only [shs]; done) | fail)) only [pls, Nat.reduceAdd, Nat.reduceMul, fA]; try apply Eq.refl) | (simp (disch := (first | exact mkB rfl | assumption | (simp (disch := first | exact mkB rfl | assumption) only [shs, fA]; done) | (simp (disch := first | exact mkB rfl | assumption) only [shs]; done) | fail)) only [pls, Nat.reduceAdd, Nat.reduceMul]; try apply Eq.refl)))) : p := h
theorem y21 {p : Prop} (h : p := by (first | (simp (disch := (first | exact mkB rfl | assumption | (simp (disch := first | exact mkB rfl | assumption) only [shs, fA]; done) | (simp (disch := first | exact mkB rfl | assumption) only [shs]; done) | fail)) only [zo1, zoi, znz, Nat.reduceAdd, fA]; try apply Eq.refl) | (simp (disch := (first | exact mkB rfl | assumption | (simp (disch := first | exact mkB rfl | assumption) only [shs, fA]; done) | (simp (disch := first | exact mkB rfl | assumption) only [shs]; done) | fail)) only [zo1, zoi, znz, Nat.reduceAdd]; try apply Eq.refl))) : p := h
theorem y22 {p : Prop} (h : p := by (first | (first | (simp (disch := (first | exact mkB rfl | assumption | (simp (disch := first | exact mkB rfl | assumption) only [shs, fA]; done) | (simp (disch := first | exact mkB rfl | assumption) only [shs]; done) | fail)) only [kds, pls, Nat.reduceAdd, Nat.reduceMul, fA]; try apply Eq.refl) | (simp (disch := (first | exact mkB rfl | assumption | (simp (disch := first | exact mkB rfl | assumption) only [shs, fA]; done) | (simp (disch := first | exact mkB rfl | assumption) only [shs]; done) | fail)) only [kds, pls, Nat.reduceAdd, Nat.reduceMul]; try apply Eq.refl)) | apply Eq.refl)) : p := h
theorem y23 {p : Prop} (h : p := by repeat (first | exact vis_nil | refine vis_seen (by apply Eq.refl) y2 ?_ | refine vis_ref (by apply Eq.refl) y7 (by apply Eq.refl) (by apply Eq.refl) (by apply Eq.refl) y20 y4 (by (conv => lhs; whnf); try apply Eq.refl) y4 ?_ | refine vis_refW (by apply Eq.refl) y7 (by apply Eq.refl) (by apply Eq.refl) (by apply Eq.refl) y20 y4 (by (conv => lhs; whnf); try apply Eq.refl) y4 ?_ | refine vis_val (by apply Eq.refl) y22 y4 ?_ | refine vis_dead (by apply Eq.refl) y7 (by apply Eq.refl) (by apply Eq.refl) ?_ | refine vis_hide (by apply Eq.refl) y7 (by apply Eq.refl) ?_)) : p := h
theorem aI {a b : Prop} (x : a) (y : b) : a ∧ b := ⟨x, y⟩
theorem gox {a b r : Ans} (k : b = r) (h : a = b := by ((repeat ((first | ((first | refine' Eq.trans (opsI_cons ?hn ?h ?hp) ?_ | refine' Eq.trans (opsI_cons0 ?hn ?h) ?_); (case hn => apply Eq.refl); (case h => (intro κ'; (first | ((first | refine Eq.trans (opi_call (by apply Eq.refl) (by apply Eq.refl) (by apply Eq.refl)) ?_ | refine Eq.trans (zns (by apply Eq.refl) (by apply Eq.refl)) ?_ | refine Eq.trans (opi_callv (by apply Eq.refl) (by intro κ'; apply Eq.refl) (by apply Eq.refl) (by apply Eq.refl)) ?_ | refine Eq.trans (zq4 (by apply Eq.refl) (by apply Eq.refl)) ?_ | refine Eq.trans (zou (by apply Eq.refl) (by apply Eq.refl) (by apply Eq.refl)) ?_ | refine Eq.trans (zk3 (by apply Eq.refl) (by apply Eq.refl) (by apply Eq.refl) (by decide)) ?_ | refine Eq.trans (zpl (by apply Eq.refl) (by apply Eq.refl) (by apply Eq.refl)) ?_ | refine Eq.trans (opi_alloc (by apply Eq.refl) y14) ?_ | refine Eq.trans (opi_cally (by apply Eq.refl) (by intro κ'; apply Eq.refl) (by apply Eq.refl) (by apply Eq.refl)) ?_); repeat (first | refine Eq.trans (zq8 y14) ?_ | refine Eq.trans (opsl_cons (by intro κ'; apply Eq.refl)) ?_ | refine Eq.trans opsl_nil ?_ | refine Eq.trans (parts_cons (by intro κ'; apply Eq.refl)) ?_ | refine Eq.trans parts_nil ?_ | refine Eq.trans (fill_one (by apply Eq.refl) (by apply Eq.refl) (by intro κ'; apply Eq.refl) (by (first | apply Eq.refl | (simp [fA] <;> omega) | (simp <;> omega))) y14) ?_ | refine Eq.trans fill_nil ?_ | refine Eq.trans (lend_easy (by apply Eq.refl)) ?_ | refine Eq.trans (lend_ref (by apply Eq.refl) (by apply Eq.refl) y6 y14) ?_ | refine Eq.trans (lend_msl (by apply Eq.refl) y6 y14) ?_ | refine Eq.trans lend_nil ?_ | refine Eq.trans (zp3 y14) ?_ | refine Eq.trans (call_k (by apply Eq.refl)) ?_ | refine Eq.trans (call_kro (by apply Eq.refl)) ?_ | refine Eq.trans (call_kh (by apply Eq.refl)) ?_ | refine Eq.trans (h_step y21 y23 y1 y1 (by apply Eq.refl) y19 y17 y9 y16 y11 y1 y1 (by apply Eq.refl) y8 y18 y3 y4 y17) ?_ | refine Eq.trans give_none ?_ | refine Eq.trans (give_some (by apply Eq.refl) y6 y14 (by intro κ'; apply Eq.refl)) ?_ | refine Eq.trans give_nil ?_ | refine Eq.trans adopt_no ?_ | refine Eq.trans adopt_fsl ?_ | refine Eq.trans (lent_k (by apply Eq.refl) y9) ?_ | refine Eq.trans (lent_r (by apply Eq.refl) y9 (by (first | apply Eq.refl | assumption | (simp [lentSame, samePs, sameP, fA]; done) | (simp [lentSame, samePs, sameP]; done)))) ?_ | refine Eq.trans (call_kv (by apply Eq.refl)) ?_ | refine Eq.trans (v_step (by repeat (first | exact vl_nil | exact zbq y12 | apply vl_app | apply vl_cons | exact zl3 y12 | apply vw_ref (by apply Eq.refl) (by apply Eq.refl) y6 y14 | apply vw_msl (by apply Eq.refl) (by apply Eq.refl) y6 y14 | apply vw_mref (by apply Eq.refl) (by apply Eq.refl) (by apply Eq.refl) | apply vw_isl | exact vw_fsl | apply vw_ipt | apply vw_agg | apply vw_imp | exact vw_fn)) y1 y9) ?_ | refine Eq.trans (call_ky (by apply Eq.refl) (by apply Eq.refl)) ?_ | refine Eq.trans (y_step y21 y23 y1 y1 (by apply Eq.refl) y19 y17 y9 y16 y11 y1 y1 (by apply Eq.refl) y8 y18 y3 y4 y17) ?_)) | refine Eq.trans zcw ?_); (repeat ((conv => lhs; whnf) <;> (first | apply Eq.refl | refine Eq.trans br_tt ?_ | refine Eq.trans br_ff ?_ | refine Eq.trans (br_t (by assumption)) ?_ | refine Eq.trans (br_f (by assumption)) ?_ | refine Eq.trans br_not ?_ | refine Eq.trans (br_yes (by (first | omega | assumption))) ?_ | refine Eq.trans (br_no (by (first | omega | assumption))) ?_ | refine Eq.trans (chk_ok y6) ?_ | refine Eq.trans (get_some y15) ?_ | refine Eq.trans (set_eq y14) ?_ | refine Eq.trans (take_eq y14) ?_ | refine Eq.trans (zq8 y14) ?_ | refine Eq.trans (str_some y15) ?_ | refine Eq.trans (zp3 y14) ?_ | refine Eq.trans (nat_eq (by (first | (simp (disch := first | omega | assumption) only [Int.toNat_natCast, Int.reduceToNat, Int.toNat_zero, fA]; apply Eq.refl) | (simp (disch := first | omega | assumption) only [Int.toNat_natCast, Int.reduceToNat, Int.toNat_zero]; apply Eq.refl) | apply Eq.refl))) ?_ | refine Eq.trans (byt_eq (by (first | apply Eq.refl | (simp (disch := first | omega | assumption) only [zq2, fA]; apply Eq.refl) | (simp (disch := first | omega | assumption) only [zq2]; apply Eq.refl) | (simp (disch := first | omega | assumption) [zq2, fA]; done)))) ?_ | refine Eq.trans (key_eq (by (first | (simp only [Nat.reduceAdd, fA]; try apply Eq.refl) | (simp only [Nat.reduceAdd]; try apply Eq.refl) | apply Eq.refl))) ?_ | refine Eq.trans (opt_some (by (first | apply e1 | apply e2 | apply e3 | apply e4 | apply e5 | apply e6 | assumption | apply Eq.refl))) ?_ | refine Eq.trans (h_step y21 y23 y1 y1 (by apply Eq.refl) y19 y17 y9 y16 y11 y1 y1 (by apply Eq.refl) y8 y18 y3 y4 y17) ?_))))); (try (case hp => (intro κ'; apply Eq.refl)))) | refine' Eq.trans (ops_run (by apply Eq.refl) (by apply Eq.refl)) ?_ | refine' Eq.trans (ops_skip (by apply Eq.refl) (by apply Eq.refl) (by apply Eq.refl) (by intro κ'; apply Eq.refl)) ?_ | refine' Eq.trans (ops_skipT (by apply Eq.refl) (by apply Eq.refl) (by apply Eq.refl) (by intro κ'; apply Eq.refl)) ?_ | refine' Eq.trans (ops_nil (by intro κ'; apply Eq.refl)) ?_ | refine' Eq.trans ex_seq ?_ | refine' Eq.trans ex_region ?_ | refine' Eq.trans ex_block ?_ | refine' Eq.trans (ex_cond (by intro κ'; apply Eq.refl)) ?_ | refine' Eq.trans br_tt ?_ | refine' Eq.trans br_ff ?_ | refine' Eq.trans k_seq ?_ | refine' Eq.trans k_seq_ret ?_ | refine' Eq.trans k_seq_exit ?_ | refine' Eq.trans k_blk ?_ | refine' Eq.trans k_blk_ret ?_ | refine' Eq.trans k_blk_here ?_ | refine' Eq.trans (k_blk_exit (by apply Eq.refl)) ?_ | refine' Eq.trans ex_ret ?_ | refine' Eq.trans ex_exit ?_ | refine' Eq.trans ex_skip ?_ | refine' Eq.trans ex_loop ?_ | refine' Eq.trans (loop_head (by intro κ'; apply Eq.refl)) ?_ | refine' Eq.trans (br_yes (by (first | omega | assumption))) ?_ | refine' Eq.trans (br_no (by (first | omega | assumption))) ?_ | refine' Eq.trans (br_t (by assumption)) ?_ | refine' Eq.trans (br_f (by assumption)) ?_ | refine' Eq.trans br_not ?_ | refine' Eq.trans (ops_known (by apply Eq.refl) (by apply Eq.refl) (by (first | assumption | (apply decide_eq_true; first | assumption | omega) | (apply decide_eq_false; first | assumption | omega) | exact congrArg Bool.not (by assumption))) (by intro κ'; apply Eq.refl)) ?_); rotate_right)); apply Eq.refl)) : a = r := h.trans k
@[irreducible] def hid (x : Ans) : Ans := x
theorem hid_in {x : Ans} : x = hid x := by unfold hid; rfl
theorem finx {a b r : Ans} (k : b = r) (h : a = hid b := by ((first | refine' Eq.trans fin_ret ?_ | refine' Eq.trans fin_normal ?_); rotate_right; (repeat (((conv => lhs; whnf) <;> (first | refine' Eq.trans (chk_ok y6) ?_ | refine' Eq.trans (get_some y15) ?_ | refine' Eq.trans (take_eq y14) ?_ | refine' Eq.trans (zp3 y14) ?_ | refine' Eq.trans (zq8 y14) ?_)); rotate_right)); (try (conv => lhs; whnf)); exact hid_in)) : a = r := h.trans (hid_in.symm.trans k)
theorem finhx {a b r : Ans} (k : b = r) (h : a = hid b := by ((first | refine Eq.trans (fin_step (by apply Eq.refl) (by first | exact .inl rfl | exact .inr rfl) y10 y21 y21 y4 y23 y1 y1 (by apply Eq.refl) y16 (by repeat (first | exact zpi | refine all_cons y2 ?_)) y19 y17 (by (conv => lhs; whnf); try apply Eq.refl)) ?_ | refine Eq.trans (fin_stepM (by first | exact .inl rfl | exact .inr rfl) y10 y4 (by repeat (first | exact mat_nil | refine mat_miss (by apply Eq.refl) (by apply Eq.refl) y13 (by apply Eq.refl) ?_ | refine mat_hit (by apply Eq.refl) (by apply Eq.refl) (by apply Eq.refl) y13 y14 (by intro κ'; apply Eq.refl) (by intro κ'; apply Eq.refl) ?_ | fail)) y10 y21 y21 y4 y23 y1 y1 (by apply Eq.refl) y16 (by repeat (first | exact zpi | refine all_cons y2 ?_)) y19 y17 (by (conv => lhs; whnf); try apply Eq.refl)) ?_); exact hid_in)) : a = r := h.trans (hid_in.symm.trans k)
theorem hgx {a b r : Ans} (k : b = r) (h : a = b := by (refine' Eq.trans (h_step y21 y23 y1 y1 (by apply Eq.refl) y19 y17 y9 y16 y11 y1 y1 (by apply Eq.refl) y8 y18 y3 y4 y17) ?_; rotate_right; apply Eq.refl)) : a = r := h.trans k
theorem finyx {a b r : Ans} (k : b = r) (h : a = hid b := by (refine Eq.trans (fin_y (by (first | apply Eq.refl | (simp only [fA]; apply Eq.refl))) y21 y23 y1 y1 (by apply Eq.refl) y16 (by repeat (first | exact zpi | refine all_cons y2 ?_)) y19) ?_; exact hid_in)) : a = r := h.trans (hid_in.symm.trans k)
theorem nrm {F : Fx} {κ : Ex → St → Ans} {a : Code} {env env' : List (Nat × AV)} {heap heap' : List (Nat × Blk)} {next tag : Nat} {r : Ans} (k : headX F a ⟨env', heap', next, tag⟩ κ = r)
  (he : env = env' := by (first | (simp (disch := first | omega | assumption) only [nfs, w_i64, Int.reduceAdd, Int.reduceMul, Int.reduceNeg, Int.reduceLE, Int.reduceLT, Int.reduceToNat, Int.toNat_natCast, Nat.reduceAdd, Nat.reduceMul, fA]; apply Eq.refl) | (simp (disch := first | omega | assumption) only [nfs, w_i64, Int.reduceAdd, Int.reduceMul, Int.reduceNeg, Int.reduceLE, Int.reduceLT, Int.reduceToNat, Int.toNat_natCast, Nat.reduceAdd, Nat.reduceMul]; apply Eq.refl) | apply Eq.refl)) (hh : heap = heap' := by (first | (simp (disch := first | omega | assumption) only [nfs, w_i64, Int.reduceAdd, Int.reduceMul, Int.reduceNeg, Int.reduceLE, Int.reduceLT, Int.reduceToNat, Int.toNat_natCast, Nat.reduceAdd, Nat.reduceMul, fA]; apply Eq.refl) | (simp (disch := first | omega | assumption) only [nfs, w_i64, Int.reduceAdd, Int.reduceMul, Int.reduceNeg, Int.reduceLE, Int.reduceLT, Int.reduceToNat, Int.toNat_natCast, Nat.reduceAdd, Nat.reduceMul]; apply Eq.refl) | apply Eq.refl)) : headX F a ⟨env, heap, next, tag⟩ κ = r := (zaa he hh rfl).trans k
end Go.Sim
end
section
namespace Go.Sim
open Go Go.RowKit Go.ChangeShapes Go.WideShapes
theorem ze8 {C : Checked} {os : Os} {f : FuncId} {F : Func} {L : Nat → Option TI} {T : Nat → Option Entry} {fa : AFn} {s : ChangeSpec} {H : Type} {enc : TypeId × Value → H} {n : Nat} {tb : TypeId}
  {conds : List PathCond} {apart fresh handsOn again : Bool} {laid : List (String × DataW Unit)}
  (own : ownKnob C.prog.godebug = none) (started : os.Started) (noInit : C.prog.inits.idxOf? f = none) (hfn : C.prog.funcs[f]? = some F)
  (hL : LOK C.prog L) (hT : TableOK C.prog L T) (hf : T f = some (.code fa)) (hlaid : laidOutB C.prog = true)
  (hps : F.params.toList.all (fun t => okShape L n t && C.prog.readableRec t && decide (t < C.prog.types.size)) = true)
  (hres : F.resultTypes = #[tb]) (hb : C.prog.underlying tb = some .bool)
  (hvars : s.vars = []) (hs : ∀ (H : Type) (ds : List (DataW H)), ds.length = F.params.toList.length → s.fn H ds = { results := [.lit (.bool true)], args := ds })
  (hgl : ∀ (W : World), laidMetH C.prog laid W → ∃ gl, GlobP C.prog gl ∧ GlobS ⟨W, [], ⟨fun _ => (0, 0), fun _ => 0, W.heap.size, fun _ _ => False, gl, fun _ _ _ => False⟩, 0, 1⟩)
  (hlaw : ∀ (W : World), laidMetH C.prog laid W → ∀ cs, ShpAll L n F.params.toList cs → ∃ lent, callω L T f 0 cs (List.replicate F.params.toList.length none) = some (.bool true, lent))
  (witness : ∃ (w : World) (tape : Tape) (i : Input), w.os = os ∧ (w.forCall tape i).Shaped C.prog ∧ i.vars = [] ∧ Input.okWide C.prog (w.forCall tape i) .any w.heap.size f i ∧
   ((s.pre enc C.prog F conds apart (w.forCall tape i).memory i.args ∧ laidMetH C.prog laid (w.forCall tape i).memory) ∧ sizedMet enc C.prog F (OpenSpec.ofChange s) apart (w.forCall tape i).memory i.args) ∧ ({} : Assume).holds C.prog (lone (Frame.enter C.prog f i.args .normal) [] (w.forCall tape i))) :
  ReturnsInHanded {} C os f .any (fun w args => (s.pre enc C.prog F conds apart w args ∧ laidMetH C.prog laid w) ∧ sizedMet enc C.prog F (OpenSpec.ofChange s) apart w args) (s.post enc C.prog F apart fresh handsOn again) := by
 refine returnsInHanded_of_change_and (C := C) (X := fun w _ => laidMetH C.prog laid w) (fun _ _ _ hh h => h.of_heap hh) own started noInit hfn witness ?_
 intro W base args ds gs before hval hW hcnd _ hLd _
 have hW' := hW
 obtain ⟨p, q, hA, hV, rfl, hfz, hnd⟩ := hW
 rw [hvars] at hV
 obtain ⟨rfl, rfl⟩ := trodVars_none hV
 rw [List.append_nil] at hW'
 have hps' : ∀ t ∈ F.params.toList, okShape L n t = true ∧ C.prog.readableRec t = true ∧ t < C.prog.types.size := fun t ht => by
  have := List.all_eq_true.1 hps t ht
  simp only [qO5, decide_eq_true_eq] at this
  exact ⟨this.1.1, this.1.2, this.2⟩
 obtain ⟨gl, hG, hS⟩ := hgl W hLd
 obtain ⟨cs, hcs, hshp⟩ := shp_all (s := ⟨W, [], ⟨fun _ => (0, 0), fun _ => 0, W.heap.size, fun _ _ => False, gl, fun _ _ _ => False⟩, 0, 1⟩) hL (fun b o hx => hx.elim (fun ⟨k, blk, hk, _⟩ => by cases hk) id) F.params.toList args.toList ds p
  (List.all_eq_true.2 fun t ht => (hps' t ht).1) (fun j t v h1 h2 => hval j t v (by simpa using h1) (by simpa using h2)) hA
 obtain ⟨lent, hlaw⟩ := hlaw W hLd cs hshp
 have hlen := zij _ _ _ _ hA
 refine (law_calls C.mixed hL hT hf (zgp _ _ hshp) hG hS hcs hlaw).mono fun e W' ⟨he, hbl⟩ => ?_
 subst he
 have hspec := hs H (ds ++ []) (by simpa using hlen)
 refine ⟨_, rfl, zk0 (pa := p) (pv := []) hW' (fun b sp hd => ?_) (fun sp hsp => ?_) (fun sp _ => ?_) (by simp) hbl (ok_one hres rfl (okWide_bool_mk hb _))⟩
 ·rw [hspec, hres]
  exact trodAll_cons_mk (shut_bool hb _) trodAll_mk0
 ·rw [hspec]
  simp only [List.append_nil]
  exact zgy hlaid hbl _ _ _ _ (fun t ht => (hps' t ht).2) hA (fun x hx => hW'.lt x hx) hsp
 ·rw [hspec, hvars]
  rfl
end Go.Sim
end
section
namespace Go.Sim
open Go Go.RowKit Go.ChangeShapes Go.WideShapes
section
variable {P : Program} {W : World}
structure ErrTy (P : Program) (nm : String) (ti tp te ts : TypeId) : Prop where
 row : ∀ u, P.typeName? 3 u = some nm → u = tp
 ptr : P.underlying tp = some (.pointer te)
 str : ∃ f : Field, P.underlying te = some (.struct #[f]) ∧ f.type = ts ∧ f.offset = 0
 txt : P.underlying ts = some .string
 ce : P.cellsOf te = 1
 cs : P.cellsOf ts = 1
 ifc : ∃ ms, P.underlying ti = some (.interface ms)
 cmp : ∃ i, P.info? tp = some i ∧ i.comparable = true
 one : ∃ j, P.info? te = some j ∧ j.size = 1
theorem ErrTy.of {nm nm0 : String} {ti tp te ts : TypeId} {f : Field} {ms : Array (String × TypeId)} (hnm : "*" ++ nm0 = nm) (h1 : ((List.range P.types.size).all fun u => P.typeName? 3 u != some ("*" ++ nm0) || u == tp) = true)
  (h2 : ((List.range P.types.size).all fun e => P.typeName? 2 e != some nm0 || (match (P.info? e).map (·.desc) with | some (TypeDesc.named _ _) => true | _ => false)) = true) (h3 : nm0.toList.head? ≠ some (Char.ofNat 42))
  (h4 : P.underlying tp = some (.pointer te)) (h5 : P.underlying te = some (.struct #[f])) (h6 : f.type = ts) (h7 : f.offset = 0) (h8 : P.underlying ts = some .string) (h9 : P.cellsOf te = 1) (h10 : P.cellsOf ts = 1) (h11 : P.underlying ti = some (.interface ms))
  (h12 : (match P.info? tp with | some i => i.comparable | none => false) = true) (h13 : (match P.info? te with | some i => i.size == 1 | none => false) = true) : ErrTy P nm ti tp te ts where
 row := fun u h => typeName_ptr_named (nm := nm0) h1 h2 h3 u (by rw [hnm]; exact h)
 ptr := h4
 str := ⟨f, h5, h6, h7⟩
 txt := h8
 ce := h9
 cs := h10
 ifc := ⟨ms, h11⟩
 cmp := by
  split at h12
  ·rename_i i hi; exact ⟨i, hi, h12⟩
  ·cases h12
 one := by
  split at h13
  ·rename_i i hi; exact ⟨i, hi, by simpa using h13⟩
  ·cases h13
def isErrD (nm : String) : DataW Unit → Bool
 | .iface n (.ptr (.agg [.lit (.string _)])) => n == nm
 | _ => false
theorem zhs {nm : String} {ti tp te ts : TypeId} (hT : ErrTy P nm ti tp te ts) {all : List MemPlace}
  (hok : ∀ b off, MemPlace.cell b off ∈ all → ∀ u v, W.cell? ⟨b, off, none⟩ = some (.iface u v) → Value.okWide P W .any 0 u v) :
  ∀ (l : List (String × DataW Unit)) (ps : List MemPlace), DataW.LaidVars P W l ps → (∀ x ∈ ps, x ∈ all) → (∀ x ∈ l, isErrD nm x.2 = true) → (∀ x ∈ l, ∀ g, P.globalNamed x.1 = some g → (P.globals[g]?).map (·.type) = some ti) →
  ∃ E : List (Nat × Addr), (E.map fun e => MemPlace.cell e.2.block e.2.off).Sublist ps ∧ (∀ e ∈ E, W.cell? ⟨e.1, 0, none⟩ = some (.iface tp (.pointer (some e.2)))) ∧ (∀ x ∈ l, ∃ e ∈ E, P.globalNamed x.1 = some e.1) ∧ ∀ e ∈ E, ∃ x ∈ l, P.globalNamed x.1 = some e.1
 | [], ps, h, _, _, _ => ⟨[], by simp, by simp, by simp, by simp⟩
 | (n, d) :: l, ps, h, hin, hd, hg => by
  obtain ⟨g, t, cs, fuel, p, q, h1, h2, h3, h4, h5, rfl⟩ := h
  have ht : t = ti := by
   have := hg (n, d) (by simp) g h1
   rw [h2] at this
   exact Option.some.inj this
  subst ht
  have hd0 := hd (n, d) (by simp)
  simp only at hd0
  unfold isErrD at hd0
  split at hd0
  ·rename_i nm' text
   have hnm : nm' = nm := by simpa using hd0
   subst hnm
   obtain ⟨f, f1, f2, f3⟩ := hT.str
   obtain ⟨ms, hms⟩ := hT.ifc
   have hcell : ∀ u v, cs.toList = [.iface u v] → W.cell? ⟨g, 0, none⟩ = some (.iface u v) := fun u v e => by
    have : cs = #[.iface u v] := by apply Array.ext'; simpa using e
    subst this
    simpa using World.var?_cell h1 h3 0
   have hsz : ∀ u v, cs.toList = [.iface u v] → MemPlace.cell g 0 ∈ MemPlace.row ⟨g, 0, none⟩ cs.size := fun u v e => by
    have : cs = #[.iface u v] := by apply Array.ext'; simpa using e
    subst this
    simp [MemPlace.row]
   obtain ⟨a, s, e1, e2, e3, e4, e5⟩ := errorString_of_trod hms hT.row hT.ptr f1 f2 f3 hT.txt hT.ce hT.cs h4 (fun u v e => hok g 0 (hin _ (by
    rw [List.append_assoc]
    exact List.mem_append_left _ (hsz u v e))) u v (hcell u v e))
   obtain ⟨E, k1, k2, k4, k5⟩ := zhs hT hok l q h5 (fun x hx => hin x (List.mem_append_right _ hx)) (fun x hx => hd x (List.mem_cons_of_mem _ hx)) (fun x hx => hg x (List.mem_cons_of_mem _ hx))
   refine ⟨(g, a) :: E, ?_, ?_, ?_, ?_⟩
   ·subst e5
    simp only [List.map_cons]
    have hrow : MemPlace.row a 1 = [.cell a.block a.off] := by simp [MemPlace.row]
    rw [hrow, List.append_assoc]
    exact (List.Sublist.cons_cons _ k1).trans (List.sublist_append_right _ _)
   ·intro e he
    rcases List.mem_cons.1 he with rfl | he
    ·exact hcell _ _ e1
    ·exact k2 e he
   ·intro x hx
    rcases List.mem_cons.1 hx with rfl | hx
    ·exact ⟨_, List.mem_cons_self, h1⟩
    ·obtain ⟨e, he, hh⟩ := k4 x hx
     exact ⟨e, List.mem_cons_of_mem _ he, hh⟩
   ·intro e he
    rcases List.mem_cons.1 he with rfl | he
    ·exact ⟨_, List.mem_cons_self, h1⟩
    ·obtain ⟨x, hx, hh⟩ := k5 e he
     exact ⟨x, List.mem_cons_of_mem _ hx, hh⟩
  ·cases hd0
theorem zgz {α β : Type} {f : α → β} : ∀ {l : List α}, (l.map f).Nodup → ∀ x ∈ l, ∀ y ∈ l, f x = f y → x = y
 | [], _, x, hx, _, _, _ => by cases hx
 | z :: l, h, x, hx, y, hy, e => by
  simp only [List.map_cons, List.nodup_cons] at h
  rcases List.mem_cons.1 hx with rfl | hx' <;> rcases List.mem_cons.1 hy with rfl | hy'
  ·rfl
  ·exact (h.1 (e ▸ List.mem_map_of_mem hy')).elim
  ·exact (h.1 (e ▸ List.mem_map_of_mem hx')).elim
  ·exact zgz h.2 x hx' y hy' e
theorem zek {nm : String} {ti tp te ts : TypeId} (hT : ErrTy P nm ti tp te ts) {laid : List (String × DataW Unit)} (hL : laidMetH P laid W)
  (hno : (laid.filter fun x => x.2.handleName?.isSome) = []) (hd : laid.all (fun x => isErrD nm x.2) = true)
  (hg : laid.all (fun x => match P.globalNamed x.1 with | some g => (P.globals[g]?).map (·.type) == some ti | none => false) = true)
  (hall : (List.range P.globals.size).all (fun g => !errG P g || laid.any fun x => P.globalNamed x.1 == some g) = true) :
  ∃ gl, GlobP P gl ∧ GlobS ⟨W, [], ⟨fun _ => (0, 0), fun _ => 0, W.heap.size, fun _ _ => False, gl, fun _ _ _ => False⟩, 0, 1⟩ := by
 have hM : laidMet P laid W := by
  unfold laidMetH at hL
  rw [hno] at hL
  exact hL
 obtain ⟨ps, hv, hnd, hrows⟩ := hM
 have hg' : ∀ x ∈ laid, ∀ g, P.globalNamed x.1 = some g → (P.globals[g]?).map (·.type) = some ti := fun x hx g e => by
  have := List.all_eq_true.1 hg x hx
  rw [e] at this
  simpa using this
 obtain ⟨E, k1, k2, k4, k5⟩ := zhs hT (all := ps) (fun b off hb u v hc => (hrows b off hb).2 u v hc) laid ps hv (fun _ h => h) (fun x hx => List.all_eq_true.1 hd x hx) hg'
 have hnE : (E.map fun e => MemPlace.cell e.2.block e.2.off).Nodup := hnd.sublist k1
 have hinj := zgz hnE
 refine ⟨fun g => (E.find? fun e => e.1 == g).map fun e => .iface tp (.pointer (some e.2)), ⟨?_, ?_, ?_⟩, ?_⟩
 ·intro g0 v0 _
  obtain ⟨i, i1, i2⟩ := hT.cmp
  obtain ⟨j, j1, j2⟩ := hT.one
  refine ⟨tp, te, i, j, hT.ptr, i1, i2, j1, j2, fun g v h => ?_⟩
  obtain ⟨e, _, rfl⟩ := Option.map_eq_some_iff.1 h
  exact ⟨e.2, rfl⟩
 ·intro g g' v h h'
  obtain ⟨e, he, rfl⟩ := Option.map_eq_some_iff.1 h
  obtain ⟨e', he', hv'⟩ := Option.map_eq_some_iff.1 h'
  simp only [Value.iface.injEq, Value.pointer.injEq, qO1, true_and] at hv'
  have m1 := List.mem_of_find?_eq_some he
  have m2 := List.mem_of_find?_eq_some he'
  have := hinj e' m2 e m1 (by rw [hv'])
  subst this
  have e1 := List.find?_some he
  have e2 := List.find?_some he'
  simp only [beq_iff_eq] at e1 e2
  rw [← e1, ← e2]
 ·intro g hgE
  have hlt : g < P.globals.size := by
   unfold errG at hgE
   cases hx : P.globals[g]? with
   | none => rw [hx] at hgE; cases hgE
   | some x => exact (Array.getElem?_eq_some_iff.1 hx).1
  have := List.all_eq_true.1 hall g (List.mem_range.2 hlt)
  rw [hgE, Bool.not_true, Bool.false_or] at this
  obtain ⟨x, hx, hxg⟩ := List.any_eq_true.1 this
  simp only [beq_iff_eq] at hxg
  obtain ⟨e, he, hh⟩ := k4 x hx
  rw [hxg] at hh
  have hf : (E.find? fun e => e.1 == g).isSome = true := List.find?_isSome.2 ⟨e, he, by simpa using (Option.some.inj hh).symm⟩
  obtain ⟨e', he'⟩ := Option.isSome_iff_exists.1 hf
  exact ⟨.iface tp (.pointer (some e'.2)), by simp only [he', Option.map_some]⟩
 ·intro g v h
  obtain ⟨e, he, rfl⟩ := Option.map_eq_some_iff.1 h
  have m1 := List.mem_of_find?_eq_some he
  have e1 := List.find?_some he
  simp only [beq_iff_eq] at e1
  refine ⟨⟨by rw [← e1]; exact k2 e m1, fun ho => ?_⟩, fun T a ha => ?_⟩
  ·rcases ho with ⟨k, blk, hk, _⟩ | hb
   ·cases hk
   ·exact hb
  ·simp only [Value.iface.injEq, Value.pointer.injEq, qO1] at ha
   obtain ⟨_, rfl⟩ := ha
   exact (hrows _ _ (k1.subset (List.mem_map_of_mem (f := fun e : Nat × Addr => MemPlace.cell e.2.block e.2.off) m1))).1
end
end Go.Sim
end
