/- The interpreter is the model's: one operation, a region, code. -/
import Derived.Test.YtmckiigefkfpaaaDoorSimHBack
import Derived.Test.YtmckiigefkfpaaaDoorSimMap
set_option linter.unusedVariables false
set_option linter.unusedSimpArgs false
namespace Go.Sim
open Go

section
variable {P : Program} {c : Cx} {nt : Nat} {st : St} {a : Act} {w : World} {m : Mp} {o : Oper} {v : AV} {st' : St} {L : Nat → Option TI} {K : Ann} {Γ : Oracle}

theorem VR.fn_inv {s : S} {f : Nat} {cs : List AV} {x : Value} (h : VR s (.fn f cs) x) : ∃ vs, x = .func (.func f) #[] vs.toArray ∧ VRs s true cs vs := by cases h with | fn hv => exact ⟨_, rfl, hv⟩

theorem VRs.weak {s : S} {cs : List AV} {vs : List Value} (h : VRs s true cs vs) : VRs s false cs vs := by
  induction cs generalizing vs with
  | nil => cases h; exact .nil _
  | cons c cs ih => cases h with | cons h1 hv hs => exact .cons (fun e => by cases e) hv (ih hs)

theorem run_call_value {cl : Call} {f : Operand} (ho : o.op = .call cl) (hf : cl.callee = .value f) {g : Nat} {caps : Array Value} (he : a.eval f = .func (.func g) #[] caps) :
    (execOp a.eval o).run P w = (callFunc g (cl.args.map a.eval ++ caps)).run P w := by
  simp [execOp, ho, resolve, hf, he, Deferred.ofValue, invoke]

theorem lentSame_ok : ∀ {a b : List (Option (List AV))}, lentSame a b = true → a = b
  | [], [], _ => rfl
  | none :: l, none :: r, h => by rw [lentSame_ok (a := l) (b := r) h]
  | some a :: l, some b :: r, h => by
    simp only [lentSame, Bool.and_eq_true] at h
    rw [samePs_ok h.1, lentSame_ok h.2]
  | [], _ :: _, h => by cases h
  | none :: _, [], h => by cases h
  | none :: _, some _ :: _, h => by cases h
  | some _ :: _, [], h => by cases h
  | some _ :: _, none :: _, h => by cases h

theorem aput_it {α : Type} {k : Nat} {v : α} : ∀ {l : List (Nat × α)}, aget k l = some v → aput k v l = l
  | [], h => by cases h
  | (j, u) :: l, h => by
    simp only [aget] at h
    simp only [aput]
    split at h
    · rename_i e; simp only [Option.some.injEq] at h; subst e; subst h; rw [if_pos rfl]
    · rename_i e; rw [if_neg e, aput_it h]

theorem setR_it {cells : List AV} {o n : Nat} (h : o + n ≤ cells.length) : setR cells o ((cells.drop o).take n) = cells := by
  unfold setR
  have : ((cells.drop o).take n).length = n := by simp; omega
  rw [this, List.append_assoc, ← List.drop_drop, List.take_append_drop, List.take_append_drop]

theorem giveBack_same {L : Nat → Option TI} {st : St} : ∀ {vs : List AV} {j : Nat} {ts : List Nat} {l : List (AV × Option (List AV) × Option (Nat × Nat × Nat))}, lendAll L st j vs ts = some l → giveBack st (l.map (·.2.2)) (l.map (·.2.1)) = some st
  | [], j, ts, l, h => by simp [lendAll] at h; subst h; rfl
  | v :: vs, j, ts, l, h => by
    simp only [lendAll, Option.bind_eq_bind, Option.bind_eq_some_iff, Option.some.injEq] at h
    obtain ⟨x, h1, xs, h2, rfl⟩ := h
    have ih := giveBack_same h2
    simp only [List.map_cons]
    cases v <;> simp only [lend, Option.bind_eq_bind, Option.bind_eq_some_iff, Option.some.injEq] at h1 <;> first | (cases h1; done) | (subst h1; exact ih) | skip
    · rename_i site g off
      obtain ⟨cells, k1, n', k2, k3⟩ := h1
      split at k3
      · rename_i hle
        simp only [Option.some.injEq] at k3
        subst k3
        simp only [giveBack]
        unfold blkOf at k1
        split at k1
        · cases k1
        split at k1
        · rename_i b hb
          try rw [hb]
          try simp only
          split at k1
          · simp only [Option.some.injEq] at k1
            subst k1
            rw [if_pos (by simp; omega), setR_it hle]
            have : putCells st site b.cells = st := by
              unfold putCells
              rw [hb]
              show ({ st with heap := aput site b st.heap } : St) = st
              rw [aput_it hb]
            rw [this]
            exact ih
          · cases k1
        · cases k1
      · cases k3
    · rename_i s0 g0 z0 o0 n0
      cases hb : blkOf st s0 g0 with
      | none => rw [hb] at h1; obtain ⟨_, k1, _⟩ := h1; cases k1
      | some cells =>
        rw [hb] at h1
        obtain ⟨_, k1, k2⟩ := h1
        split at k2
        · simp only [Option.some.injEq] at k2; subst k2; exact ih
        · cases k2

theorem roCall_aCall {L : Nat → Option TI} {Γ : Oracle} {st s : St} {d f : Nat} {args : List AV} {ts : List Nat} {v : AV} (h : roCall L Γ st f args ts = some (v, s)) : aCall L false Γ st d f args ts = some (v, s) := by
  unfold roCall at h
  unfold aCall
  simp only [Option.bind_eq_bind, Option.bind_eq_some_iff] at h ⊢
  obtain ⟨l, h1, h⟩ := h
  refine ⟨l, h1, ?_⟩
  split at h
  · rename_i hc
    rw [if_pos hc]
    simp only [Option.bind_eq_some_iff] at h ⊢
    obtain ⟨q, h2, h⟩ := h
    refine ⟨q, h2, ?_⟩
    split at h
    · rename_i hs
      have e := lentSame_ok hs
      refine ⟨st, ?_, by simpa [adopt] using h⟩
      rw [← e]
      exact giveBack_same h1
    · cases h
  · cases h

theorem aCall_goes (hΓ : OracleOK P Γ) (hG : GlobP P c.gl) (h : RelM c nt st a w m) {cl : Call} {f : Operand} (ho : o.op = .call cl) (hf : cl.callee = .value f) {g d : Nat} {captured : List AV} (hfn : operand st f = .fn g captured) {own : Bool} {ts : List Nat}
    (hc : aCall L own Γ st d g (cl.args.toList.map (operand st) ++ captured) ts = some (v, st')) (hdk : isMapKey d = false := by assumption) : Goes P c nt a o w v st' := by
  have hv := operand_ok h f
  rw [hfn] at hv
  obtain ⟨caps, he, hcap⟩ := hv.fn_inv
  have hargs : VRs (At st w m) false (cl.args.toList.map (operand st) ++ captured) (cl.args.toList.map a.eval ++ caps) := (operands_ok h false _ rfl).append hcap.weak
  generalize hav : cl.args.toList.map (operand st) ++ captured = avs at hc hargs
  unfold aCall at hc
  cases hl : lendAll L st 0 avs ts with
  | none => simp only [hl, Option.bind_eq_bind, Option.bind_none] at hc; cases hc
  | some l =>
    simp only [hl, Option.bind_eq_bind, Option.bind_some] at hc
    split at hc
    · rename_i hap
      rw [Bool.and_eq_true] at hap
      cases hg : Γ g (st.tag + 1) (l.map (·.1)) (l.map (·.2.1)) with
      | none => simp only [hg, Option.bind_none] at hc; cases hc
      | some p =>
        obtain ⟨r, lent'⟩ := p
        simp only [hg, Option.bind_some] at hc
        cases hb : giveBack st (l.map (·.2.2)) lent' with
        | none => simp only [hb, Option.bind_none] at hc; cases hc
        | some st1 =>
          simp only [hb, Option.bind_some, Option.some.injEq] at hc
          have H : Lent st w m avs l := ⟨(lendAll_ok hl).1, fun i u p hu hp => by simpa using (lendAll_ok hl).2 i u p hu hp, hap.1, hap.2⟩
          have hpre := H.pre h hargs
          have hinv := hΓ.one _ _ _ _ _ _ hg w _ _ hpre (h.gp hG)
          have hrun := run_call_value (P := P) (w := w) ho hf he
          have harr : cl.args.map a.eval ++ caps.toArray = (cl.args.toList.map a.eval ++ caps).toArray := by apply Array.ext'; simp
          rw [harr] at hrun
          intro next Q hn
          rw [hrun]
          rcases hinv with ⟨h1, h2⟩ | ⟨x, w', h1, h2⟩ | ⟨row, h1, h2⟩
          · rw [h1]
            refine h2.mono ?_
            rintro e w' ⟨x, rfl, hpost⟩
            obtain ⟨m', k1, k2⟩ := call_back h H hpost hb hc
            exact hn _ _ _ k1 k2
          · rw [h1]
            obtain ⟨m', k1, k2⟩ := call_back h H h2 hb hc
            exact hn _ _ _ k1 k2
          · rw [h1]
            refine Go.Rows.mono h2 ?_
            intro x w' hpost
            obtain ⟨m', k1, k2⟩ := call_back h H hpost hb hc
            exact hn _ _ _ k1 k2
    · cases hc


theorem hCall_goes (hΓ : OracleOK P Γ) (hG : GlobP P c.gl) (h : RelM c nt st a w m) {cl : Call} {f : Operand} (ho : o.op = .call cl) (hf : cl.callee = .value f) {g d : Nat} {captured : List AV} (hfn : operand st f = .fn g captured)
    {rd : Option (List Nat)} (hc : hCall rd Γ st d g (cl.args.toList.map (operand st) ++ captured) = some (v, st')) : Goes P c nt a o w v st' := by
  have hv := operand_ok h f
  rw [hfn] at hv
  obtain ⟨caps, he, hcap⟩ := hv.fn_inv
  have hargs : VRs (At st w m) false (cl.args.toList.map (operand st) ++ captured) (cl.args.toList.map a.eval ++ caps) := (operands_ok h false _ rfl).append hcap.weak
  generalize hav : cl.args.toList.map (operand st) ++ captured = avs at hc hargs
  unfold hCall at hc
  simp only [Option.bind_eq_bind, Option.bind_eq_some_iff] at hc
  obtain ⟨pk, hpk, hc⟩ := hc
  split at hc
  · rename_i hok
    simp only [Option.bind_eq_some_iff] at hc
    obtain ⟨l, hl, ⟨r, lent'⟩, hg, bk, hbk, hc⟩ := hc
    split at hc
    · rename_i hb
      rw [Bool.and_eq_true] at hb
      replace hb := hb.2
      simp only [Bool.and_eq_true] at hb
      simp only [Option.some.injEq, Prod.mk.injEq] at hc
      obtain ⟨rfl, rfl⟩ := hc
      have hst := fun y hy => (visit_stamp hpk (by simp) y hy).1
      have hpre := hCall_pre h hok hst hl hargs
      have hinv := hΓ.all _ _ _ _ _ _ hg w _ _ hpre (h.gp hG)
      have hrun := run_call_value (P := P) (w := w) ho hf he
      have harr : cl.args.map a.eval ++ caps.toArray = (cl.args.toList.map a.eval ++ caps).toArray := by apply Array.ext'; simp
      rw [harr] at hrun
      have back : ∀ x w' m1, HPost w w' (st.tag + 1) (avs.map (ren pk)) l lent' (mpre st w m pk l) m1 r x → ∃ m2, RelM c nt (backSt st pk bk lent') a w' m2 ∧ VR (At (backSt st pk bk lent') w' m2) (ren bk r) x :=
        fun x w' m1 hp => hCall_back h hok hst hl hbk hb.1 hb.2 hp
      intro next Q hn
      rw [hrun]
      rcases hinv with ⟨h1, h2⟩ | ⟨x, w', h1, m1, h2⟩ | ⟨row, h1, h2⟩
      · rw [h1]
        refine h2.mono ?_
        rintro e w' ⟨x, rfl, m1, hpost⟩
        obtain ⟨m', k1, k2⟩ := back _ _ _ hpost
        exact hn _ _ _ k1 k2
      · rw [h1]
        obtain ⟨m', k1, k2⟩ := back _ _ _ h2
        exact hn _ _ _ k1 k2
      · rw [h1]
        refine Go.Rows.mono h2 ?_
        rintro x w' ⟨m1, hpost⟩
        obtain ⟨m', k1, k2⟩ := back _ _ _ hpost
        exact hn _ _ _ k1 k2
    · cases hc
  · cases hc

/-! ## builtins -/

theorem run_call_builtin {cl : Call} {b : Builtin} (ho : o.op = .call cl) (hf : cl.callee = .builtin b) :
    ∃ cs, (execOp a.eval o).run P w = (builtin b cl.argTypes o.type cs (cl.args.map a.eval)).run P w := by
  refine ⟨cl.args.map fun | .const _ => true | _ => false, ?_⟩
  simp [execOp, ho, resolve, hf, invoke]
  rfl

theorem args_one {l : Array Operand} {s : S} {ev : Operand → Value} {avs : List AV} {x : AV} (h : VRs s false avs (l.toList.map ev)) (e : avs = [x]) : ∃ u, l.map ev = #[u] ∧ VR s x u := by
  rw [e] at h
  obtain ⟨u, hu, hv⟩ := h.one_inv
  exact ⟨u, by apply Array.ext'; simpa using hu, hv⟩

theorem args_two {l : Array Operand} {s : S} {ev : Operand → Value} {avs : List AV} {x y : AV} (h : VRs s false avs (l.toList.map ev)) (e : avs = [x, y]) : ∃ u z, l.map ev = #[u, z] ∧ VR s x u ∧ VR s y z := by
  rw [e] at h
  obtain ⟨u, z, hu, hv, hz⟩ := h.two_inv
  exact ⟨u, z, by apply Array.ext'; simpa using hu, hv, hz⟩

theorem ok_copy (hL : LOK P L) (h : RelM c nt st a w m) {t : Nat} {e : Nat} {j : TI} (hu : P.underlying t = some (.slice e)) (hj : TIOK P e j) (ty : Nat) (ts : Array Nat) (ht : ts[0]? = some t)
    {s : Nat} {g : Nat × Nat} {z off k n : Nat} {x : AV} {new cells : List AV} {vd vx : Value} (hd : VR (At st w m) (.msl s g z off k) vd) (hx : VR (At st w m) x vx) (hs : slCells st j.size x = some (n, new)) (hb : blkOf st s g = some cells)
    (hz : z = j.size) (hle : off + k * z ≤ cells.length) :
    ∃ w', (Builtin.copy_ ts ty #[vd, vx]).run P w = .ok (.int .i64 (min n k : Nat)) w' ∧ RelM c nt (putCells st s (setR cells off (new.take (min n k * z)))) a w' m := by
  subst hz
  obtain ⟨vs, hv, hlen, hx'⟩ := ok_slCells h hx hs
  obtain ⟨blk, b1, b2, rfl⟩ := blkOf_some hb
  have hsl := hd.msl_inv b1 b2
  have hvl := hv.length
  have hmn : min n k * j.size ≤ n * j.size := Nat.mul_le_mul_right _ (Nat.min_le_left _ _)
  have hmk : min n k * j.size ≤ k * j.size := Nat.mul_le_mul_right _ (Nat.min_le_right _ _)
  -- what is read
  have hread : ∃ spa scap, vx = .slice spa n scap ∧ (Builtin.firstCells j.size (min n k) (.slice spa n scap)).run P w = .ok (vs.take (min n k * j.size)).toArray w := by
    rcases hx' with ⟨ad, cap, rfl, _, hc⟩ | ⟨ad, cap, rfl, rfl⟩
    · refine ⟨some ad, cap, rfl, run_first (by simp; omega) (fun i u hi => ?_)⟩
      rw [List.getElem?_take] at hi
      split at hi
      · exact hc i u hi
      · cases hi
    · refine ⟨ad, cap, rfl, ?_⟩
      cases ad <;> simp [Builtin.firstCells, loadCells, loadCellsFrom]
  obtain ⟨spa, scap, rfl, hread⟩ := hread
  obtain ⟨w', q1, q2, _⟩ := h.write (P := P) (o := off) b1 (hv.take (min n k * j.size)) (by simp; omega)
  rcases hsl.2 with ⟨cap, rfl, hc, _⟩ | ⟨rfl, ad, rfl⟩
  · exact ⟨w', run_copy hu hj ty ts ht _ _ _ _ _ _ _ hread q1, q2⟩
  · have h0 : vs.take (min n 0 * j.size) = [] := by simp
    rw [h0] at q1
    simp only [storeCells, Sem.run_pure, Result.ok.injEq, true_and] at q1
    subst q1
    refine ⟨w, run_copy hu hj ty ts ht ad spa 0 0 n scap _ hread ?_, q2⟩
    cases ad <;> simp [h0, storeCells]

theorem ok_clear (hL : LOK P L) (h : RelM c nt st a w m) {t : Nat} {e : Nat} {j : TI} (hu : P.underlying t = some (.slice e)) (hj : TIOK P e j) (ty : Nat) (ts : Array Nat) (ht : ts[0]? = some t)
    {s : Nat} {g : Nat × Nat} {z off k : Nat} {cells : List AV} {vd : Value} (hd : VR (At st w m) (.msl s g z off k) vd) (hb : blkOf st s g = some cells)
    (hz : z = j.size) (hle : off + k * z ≤ cells.length) (hz0 : j.zero.length = z) :
    ∃ w', (Builtin.clear_ ts ty #[vd]).run P w = .ok (.tuple #[]) w' ∧ RelM c nt (putCells st s (setR cells off (repl k j.zero))) a w' m := by
  subst hz
  obtain ⟨blk, b1, b2, rfl⟩ := blkOf_some hb
  have hsl := hd.msl_inv b1 b2
  obtain ⟨zv, r1, r2, r3⟩ := hj.zeroVals (At st w m)
  have hz' : (Builtin.zeroCells zv.cells k).toList = (List.replicate k zv.cells.toList).flatten := by
    unfold Builtin.zeroCells
    exact range_repl zv.cells k
  have hrl : (repl k j.zero).length = k * j.size := by simp [repl, hz0]
  obtain ⟨w', q1, q2, _⟩ := h.write (P := P) (o := off) b1 (r2.repl k) (by rw [hrl]; omega)
  rcases hsl.2 with ⟨cap, rfl, hc, _⟩ | ⟨rfl, ad, rfl⟩
  · by_cases hk : k = 0
    · subst hk
      simp only [List.replicate_zero, List.flatten_nil, storeCells, Sem.run_pure, Result.ok.injEq, true_and] at q1
      subst q1
      exact ⟨w, by simp [Builtin.clear_, ht, run_underlying hu], q2⟩
    · refine ⟨w', ?_, q2⟩
      have : ∀ (ad : Addr), (Builtin.clear_ ts ty #[.slice (some ad) k cap]).run P w = ((storeCells ad (Builtin.zeroCells zv.cells k).toList).run P w).andThen fun _ w => .ok (.tuple #[]) w := by
        intro ad
        obtain ⟨k', rfl⟩ : ∃ k', k = k' + 1 := ⟨k - 1, by omega⟩
        simp [Builtin.clear_, ht, run_underlying hu, r1]
      rw [this, hz', q1]
      rfl
  · simp only [List.replicate_zero, List.flatten_nil, storeCells, Sem.run_pure, Result.ok.injEq, true_and] at q1
    subst q1
    exact ⟨w, by cases ad <;> simp [Builtin.clear_, ht, run_underlying hu], q2⟩

theorem builtin_goes (hL : LOK P L) (h : RelM c nt st a w m) {cl : Call} {b : Builtin} (ho : o.op = .call cl) (hf : cl.callee = .builtin b) {d : Nat}
    {avs : List AV} (hargs : VRs (At st w m) false avs (cl.args.toList.map a.eval))
    (hc : aBuiltin L st d b cl.argTypes.toList avs = some (v, st')) (hdk : isMapKey d = false := by assumption) : Goes P c nt a o w v st' := by
  obtain ⟨cs, hrun⟩ := run_call_builtin (P := P) (w := w) (a := a) ho hf
  generalize hts : cl.argTypes.toList = ts at hc
  have ht0 : ∀ {t : Nat} {r : List Nat}, ts = t :: r → cl.argTypes[0]? = some t := fun {t r} e => by
    have : cl.argTypes.toList[0]? = some t := by rw [hts, e]; rfl
    simpa using this
  unfold aBuiltin at hc
  split at hc
  · -- len
    rename_i t r x
    obtain ⟨u, e1, hu⟩ := args_one hargs rfl
    rw [e1] at hrun
    cases hi : L t with
    | none => simp [hi] at hc
    | some i =>
      simp only [hi, Option.bind_eq_bind, Option.bind_some] at hc
      split at hc
      · rename_i hd
        split at hc
        · rename_i s
          simp only [Option.some.injEq, Prod.mk.injEq] at hc
          obtain ⟨rfl, rfl⟩ := hc
          cases hu.str_inv
          refine goes_value (w' := w) (m' := m) (y := .int .i64 s.size) ?_ h (.int _ _)
          rw [hrun]; simp [builtin, run_len_str (strBy hL hi hd) o.type _ (ht0 rfl)]
        · cases hc
      · rename_i e hd
        split at hc
        · cases hc
        · rename_i hns
          cases hn : slLen x with
          | none => simp [hn] at hc
          | some n =>
            simp only [hn, Option.map_some, Option.some.injEq, Prod.mk.injEq] at hc
            obtain ⟨rfl, rfl⟩ := hc
            rcases slLen_ok hu hn with ⟨b, eb, _, _⟩ | ⟨pa, cap, rfl, _⟩
            · exact (hns b eb).elim
            · refine goes_value (w' := w) (m' := m) (y := .int .i64 n) ?_ h (.int _ _)
              rw [hrun]; simp [builtin, run_len_slice (sliceBy (hL _ _ hi) hd) o.type _ (ht0 rfl)]
      · rename_i n e hd
        simp only [Option.some.injEq, Prod.mk.injEq] at hc
        obtain ⟨rfl, rfl⟩ := hc
        refine goes_value (w' := w) (m' := m) (y := .int .i64 n) ?_ h (.int _ _)
        rw [hrun]; simp [builtin, run_len_arr (arrBy hL hi hd) o.type _ (ht0 rfl)]
      · cases hc
  · -- append
    rename_i t t' r s x
    obtain ⟨us, ux, e1, hus, hux⟩ := args_two hargs rfl
    rw [e1] at hrun
    cases he : slElem L t with
    | none => simp [he] at hc
    | some j =>
      simp only [he, Option.bind_eq_bind, Option.bind_some] at hc
      split at hc
      · rename_i hcnd
        obtain ⟨rfl, hz0⟩ := hcnd
        obtain ⟨e, i, q1, q2, q3, q4⟩ := slElem_ok hL he
        obtain ⟨y, w', m', g1, g2, g3⟩ := ok_append h (hL _ _ q1) q2 q4 hz0 o.type d hus hux hc
        refine goes_value (y := y) (w' := w') (m' := m') ?_ g2 g3
        have : ∀ rest, cl.argTypes.toList = t' :: t' :: rest → (Builtin.append_ cl.argTypes o.type #[us, ux]).run P w = (Builtin.append_ #[t', t'] o.type #[us, ux]).run P w := by
          intro rest er
          have e0 : cl.argTypes[0]? = some t' := by have : cl.argTypes.toList[0]? = some t' := by rw [er]; rfl
                                                    simpa using this
          have e1 : cl.argTypes[1]? = some t' := by have : cl.argTypes.toList[1]? = some t' := by rw [er]; rfl
                                                    simpa using this
          unfold Builtin.append_
          rw [e0, e1]
          rfl
        rw [hrun]
        simp [builtin, this r hts, g1]
      · cases hc
  · -- copy
    rename_i t t' r s g z off k x
    obtain ⟨us, ux, e1, hus, hux⟩ := args_two hargs rfl
    rw [e1] at hrun
    cases he : slElem L t with
    | none => simp [he] at hc
    | some j =>
      cases he' : slElem L t' with
      | none => simp [he, he'] at hc
      | some j' =>
        cases hs : slCells st j.size x with
        | none => simp [he, he', hs] at hc
        | some p =>
          obtain ⟨n, new⟩ := p
          cases hb : blkOf st s g with
          | none => simp [he, he', hs, hb] at hc
          | some cells =>
            simp only [he, he', hs, hb, Option.bind_eq_bind, Option.bind_some] at hc
            split at hc
            · rename_i hcnd
              simp only [Option.some.injEq, Prod.mk.injEq] at hc
              obtain ⟨rfl, rfl⟩ := hc
              obtain ⟨e, i, q1, q2, q3, q4⟩ := slElem_ok hL he
              obtain ⟨w', g1, g2⟩ := ok_copy hL h q3 q4 o.type cl.argTypes (ht0 rfl) hus hux hs hb hcnd.1 hcnd.2
              refine goes_value (w' := w') (m' := m) (y := .int .i64 (min n k : Nat)) ?_ g2 (.int _ _)
              rw [hrun]; simp [builtin, g1]
            · cases hc
  · -- clear
    rename_i t r s g z off k
    obtain ⟨us, e1, hus⟩ := args_one hargs rfl
    rw [e1] at hrun
    cases he : slElem L t with
    | none => simp [he] at hc
    | some j =>
      cases hb : blkOf st s g with
      | none => simp [he, hb] at hc
      | some cells =>
        simp only [he, hb, Option.bind_eq_bind, Option.bind_some] at hc
        split at hc
        · rename_i hcnd
          obtain ⟨c1, c2, c3, c4⟩ := hcnd
          simp only [Option.some.injEq, Prod.mk.injEq] at hc
          obtain ⟨rfl, rfl⟩ := hc
          obtain ⟨e, i, q1, q2, q3, q4⟩ := slElem_ok hL he
          obtain ⟨w', g1, g2⟩ := ok_clear hL h q3 q4 o.type cl.argTypes (ht0 rfl) hus hb c1 c2 c3
          refine goes_value (w' := w') (m' := m) (y := .tuple #[]) ?_ g2 (.tup (vs := []) (.nil _))
          rw [hrun]; simp [builtin, g1]
        · cases hc
  · -- delete
    rename_i t r s g k
    obtain ⟨us, ux, e1, hus, hux⟩ := args_two hargs rfl
    rw [e1] at hrun
    cases ht : mapTy L t with
    | none => simp [ht] at hc
    | some q =>
      obtain ⟨kt, e⟩ := q
      simp only [ht, Option.bind_eq_bind, Option.bind_some] at hc
      cases hm : mapOf st s g with
      | none => simp [hm] at hc
      | some p =>
        obtain ⟨ks, vs⟩ := p
        simp only [hm, Option.bind_some] at hc
        split at hc
        · rename_i hkk
          cases hp : mdel kt k ks vs with
          | none => simp [hp] at hc
          | some p =>
            simp only [hp, Option.bind_some, Option.some.injEq, Prod.mk.injEq] at hc
            obtain ⟨rfl, rfl⟩ := hc
            obtain ⟨w', g1, g2⟩ := ok_delete (ty := o.type) hL h ht hm hus hux hkk hp cl.argTypes (ht0 rfl)
            refine goes_value (w' := w') (m' := m) (y := .tuple #[]) ?_ g2 (.tup (vs := []) (.nil _))
            rw [hrun]; simp [builtin, g1]
        · cases hc
  · -- min
    rename_i ks x y k'
    obtain ⟨us, ux, e1, hus, hux⟩ := args_two hargs rfl
    cases hus.int_inv
    cases hux.int_inv
    rw [e1] at hrun
    simp only [Option.some.injEq, Prod.mk.injEq] at hc
    obtain ⟨rfl, rfl⟩ := hc
    refine goes_value (w' := w) (m' := m) ?_ h (.int _ _)
    rw [hrun]; simp [builtin, Builtin.min_, Builtin.min2, List.foldlM]
  · -- max
    rename_i ks x y k'
    obtain ⟨us, ux, e1, hus, hux⟩ := args_two hargs rfl
    cases hus.int_inv
    cases hux.int_inv
    rw [e1] at hrun
    simp only [Option.some.injEq, Prod.mk.injEq] at hc
    obtain ⟨rfl, rfl⟩ := hc
    refine goes_value (w' := w) (m' := m) ?_ h (.int _ _)
    rw [hrun]; simp [builtin, Builtin.max_, Builtin.max2, List.foldlM]
  · cases hc


/-! ## one operation -/

theorem shorten_ok (h : RelM c nt st a w m) {avs avs' : List AV} {vs : List Value} (hargs : VRs (At st w m) false avs vs) {st1 : St} (hc : shorten st avs = some (avs', st1)) :
    ∃ m', RelM c nt st1 a w m' ∧ VRs (At st1 w m') false avs' vs := by
  unfold shorten at hc
  split at hc
  · rename_i s g z o k r
    cases hb : blkOf st s g with
    | none => rw [hb] at hc; cases hc
    | some cells =>
      rw [hb] at hc
      simp only [Option.bind_some] at hc
      split at hc
      · rename_i hle
        simp only [Option.some.injEq, Prod.mk.injEq] at hc
        obtain ⟨rfl, rfl⟩ := hc
        have hsk := blkOf_key hb
        obtain ⟨blk, h1, h2, rfl⟩ := blkOf_some hb
        have hT : Turn st w m s ⟨(st.tag, st.next), blk.cells.take (o + k * z)⟩ (st.next + 1) w (m.base s) (m.ext s) :=
          ⟨Pres.refl _ _, Nat.le_succ _, .inr (.inr ⟨⟨blk, h1⟩, rfl, Nat.le_refl _, Nat.le_refl _⟩), .inr okS_fresh⟩
        have hl := hT.later
        have hB := h.blk s blk h1
        have hR : RelM c nt (newBlk st s (blk.cells.take (o + k * z))).2 a w (m.set s (m.base s) (m.ext s)) := by
          rw [newBlk_turned]
          refine h.turn hT ⟨okS_new _ _, fun e => ?_, cellsI hsk ?_⟩
          · have := h.next1
            simp only [turned, Prod.mk.injEq] at e
            omega
          · rcases h.blkAt h1 with ⟨q1, q2⟩ | ⟨cs, e, fr, r1, r2, r3, r4, r5, us, r6, r7⟩
            · exact .inl ⟨by simp [q1], by simpa [Mp.set] using q2⟩
            · refine .inr ⟨cs, e, fr, by simpa [Mp.set] using r1, by simpa [Mp.set] using r2, by simp only [Mp.set, if_true, List.length_take]; omega, by simpa [Mp.set] using r4, by simpa [Mp.set] using r5, us.take (o + k * z), (r6.later hl).take _, fun j v hj => ?_⟩
              simp only [Mp.set, if_true]
              rw [List.getElem?_take] at hj
              split at hj
              · exact r7 j v hj
              · cases hj
        refine ⟨_, hR, ?_⟩
        cases hargs with
        | cons _ hv hs =>
          refine .cons (fun e => by cases e) ?_ (hs.move hl (.inl (Nat.le_refl _)))
          have hsl := hv.msl_inv h1 h2
          refine .msl (okS_new _ _) (by cases hv with | msl _ hv _ => exact hv) fun blk' hb' hs' => ?_
          simp only [At, newBlk, aget_aput, if_true, Option.some.injEq] at hb'
          subst hb'
          refine ⟨by simp only [List.length_take]; omega, ?_⟩
          simpa [Mp.set] using hsl.2
      · cases hc
  · simp only [Option.some.injEq, Prod.mk.injEq] at hc
    obtain ⟨rfl, rfl⟩ := hc
    exact ⟨m, h, hargs⟩

theorem denOp_goes (hL : LOK P L) (hΓ : OracleOK P Γ) (hG : GlobK P K c) (h : RelM c nt st a w m) {d : Nat} (hd : d = o.dst.getD 0) (hc : denOp L K Γ st d o.type o.op = some (v, st')) (hd5 : d < 500000) : Goes P c nt a o w v st' := by
  have hdk := key_slot hd5
  generalize hop : o.op = op at hc
  cases op <;> simp only [denOp] at hc <;> first | (cases hc; done) | skip
  case move x =>
    simp only [Option.some.injEq, Prod.mk.injEq] at hc
    obtain ⟨rfl, rfl⟩ := hc
    exact goes_value (by simp [execOp, hop]) h (operand_ok h x)
  case assign x =>
    have hx := operand_ok h x
    split at hc
    · rename_i v0 hv0
      rw [hv0] at hx
      split at hc
      · cases he : slElem L o.type with
        | none => simp [he] at hc
        | some e =>
          simp only [he, Option.map_some, Option.some.injEq, Prod.mk.injEq] at hc
          obtain ⟨rfl, rfl⟩ := hc
          obtain ⟨pa, hu⟩ : ∃ pa, a.eval (.const v0) = .slice pa 0 0 := by generalize a.eval (.const v0) = y at hx; cases hx; exact ⟨_, rfl⟩
          have hT : Turn st w m d ⟨(st.tag, st.next), []⟩ (st.next + 1) w (0, 0) 0 := ⟨Pres.refl _ _, Nat.le_succ _, .inl rfl, .inr okS_fresh⟩
          have hR := h.turn hT ⟨okS_new _ _, fun e => by
            have := h.next1
            simp only [turned, Prod.mk.injEq] at e
            omega, cellsI hdk (.inl ⟨rfl, by simp [Mp.set]⟩)⟩
          refine goes_value (y := a.eval (.const v0)) (w' := w) (m' := m.set d (0, 0) 0) (by simp [execOp, hop]) (by rw [newBlk_turned]; exact hR) ?_
          rw [hu]
          refine .msl (okS_new _ _) ⟨rfl, Nat.le_refl _⟩ fun blk hb hs => ?_
          simp only [At, newBlk, aget_aput, if_true, Option.some.injEq] at hb
          subst hb
          exact ⟨by simp, .inr ⟨rfl, pa, rfl⟩⟩
      · simp only [Option.some.injEq, Prod.mk.injEq] at hc
        obtain ⟨rfl, rfl⟩ := hc
        exact goes_value (by simp [execOp, hop]) h hx
    · simp only [Option.some.injEq, Prod.mk.injEq] at hc
      obtain ⟨rfl, rfl⟩ := hc
      exact goes_value (by simp [execOp, hop]) h hx
  case pick x y z =>
    have hx := operand_ok h x
    split at hc
    · rename_i b hb
      rw [hb] at hx
      have e := hx.bool_inv
      simp only [Option.some.injEq, Prod.mk.injEq] at hc
      obtain ⟨rfl, rfl⟩ := hc
      refine goes_value (y := if b then a.eval y else a.eval z) (by simp [execOp, hop, e, asBool]) h ?_
      cases b
      · exact operand_ok h z
      · exact operand_ok h y
    · cases hc
  case alloc e =>
    cases hi : L e with
    | none => simp [hi] at hc
    | some i =>
      simp only [hi, Option.bind_eq_bind, Option.bind_some, Option.some.injEq, Prod.mk.injEq] at hc
      obtain ⟨rfl, rfl⟩ := hc
      obtain ⟨x, w', m', g1, g2, g3⟩ := ok_alloc h (hL _ _ hi) d
      exact goes_value (by simp [execOp, hop, g1]) g2 g3
  case box e x =>
    split at hc
    · rename_i hs
      simp only [Option.some.injEq, Prod.mk.injEq] at hc
      obtain ⟨rfl, rfl⟩ := hc
      obtain ⟨y, w', m', g1, g2, g3⟩ := ok_box (P := P) h e d (operand_ok h x) hs
      exact goes_value (by simp [execOp, hop, g1]) g2 g3
    · cases hc
  case build t ps =>
    cases hi : L t with
    | none => simp [hi] at hc
    | some i =>
      simp only [hi, Option.bind_eq_bind, Option.bind_some] at hc
      split at hc
      · rename_i fs hd'
        cases hf : fillA (fun k => do let (o, ty) ← fs[k]?; let j ← L ty; some (o, j.size)) i.zero (parts st ps) with
        | none => simp only [Option.bind_eq_bind] at hf; rw [hf] at hc; cases hc
        | some cs =>
          have hf' := hf
          simp only [Option.bind_eq_bind] at hf'
          rw [hf'] at hc
          simp only [Option.bind_some, Option.some.injEq, Prod.mk.injEq] at hc
          obtain ⟨rfl, rfl⟩ := hc
          obtain ⟨vs, g1, g2⟩ := ok_build h (hL _ _ hi) hL ps (.inl ⟨fs, hd', hf⟩)
          exact goes_value (by simp only [execOp, hop]; rw [Sem.run_bind, g1]; rfl) h g2
      · rename_i n e hd'
        cases hj : L e with
        | none => simp [hj] at hc
        | some j =>
          simp only [hj, Option.bind_some] at hc
          cases hf : fillA (fun k => some (k * j.size, j.size)) i.zero (parts st ps) with
          | none => rw [hf] at hc; cases hc
          | some cs =>
            rw [hf] at hc
            simp only [Option.bind_some, Option.some.injEq, Prod.mk.injEq] at hc
            obtain ⟨rfl, rfl⟩ := hc
            obtain ⟨vs, g1, g2⟩ := ok_build h (hL _ _ hi) hL ps (.inr ⟨n, e, j, hd', hj, hf⟩)
            exact goes_value (by simp only [execOp, hop]; rw [Sem.run_bind, g1]; rfl) h g2
      · cases hc
  case buildSlice t n ps =>
    cases he : slElem L t with
    | none => simp [he] at hc
    | some j =>
      simp only [he, Option.bind_eq_bind, Option.bind_some] at hc
      split at hc
      · rename_i hcnd
        cases hf : fillA (fun k => some (k * j.size, j.size)) (repl n j.zero) (parts st ps) with
        | none => rw [hf] at hc; cases hc
        | some cs =>
          rw [hf] at hc
          simp only [Option.bind_some, Option.some.injEq, Prod.mk.injEq] at hc
          obtain ⟨rfl, rfl⟩ := hc
          obtain ⟨e, i, q1, q2, q3, q4⟩ := slElem_ok hL he
          obtain ⟨y, w', m', g1, g2, g3⟩ := ok_buildSlice h q3 q4 (parts_ok h ps) d hcnd.1 hcnd.2.1 hcnd.2.2 hf
          exact goes_value (by simp only [execOp, hop]; rw [Sem.run_bind, g1]; rfl) g2 g3
      · cases hc
  case load t x =>
    split at hc
    · cases hc
    cases hi : L t with
    | none => simp [hi] at hc
    | some i =>
      simp only [hi, Option.bind_eq_bind, Option.bind_some] at hc
      cases hl : gLoad K.reads i st (operand st x) with
      | none => simp [hl] at hc
      | some y =>
        simp only [hl, Option.bind_some, Option.some.injEq, Prod.mk.injEq] at hc
        obtain ⟨rfl, rfl⟩ := hc
        obtain ⟨z, g1, g2⟩ := ok_gload h (hL _ _ hi) hG.rd hG.gp (operand_ok h x) hl
        exact goes_value (by simp [execOp, hop, g1]) h g2
  case store t x y =>
    split at hc
    · cases hc
    cases hi : L t with
    | none => simp [hi] at hc
    | some i =>
      simp only [hi, Option.bind_eq_bind, Option.bind_some] at hc
      cases hl : aStore i st (operand st x) (operand st y) with
      | none => simp [hl] at hc
      | some st2 =>
        simp only [hl, Option.bind_some, Option.some.injEq, Prod.mk.injEq] at hc
        obtain ⟨rfl, rfl⟩ := hc
        obtain ⟨w', m', g1, g2⟩ := ok_store h (hL _ _ hi) (operand_ok h x) (operand_ok h y) hl
        exact goes_skip (by simp [execOp, hop, g1]) g2
  case nilCheck x =>
    have hx := operand_ok h x
    split at hc
    · rename_i s g k hk
      simp only [Option.some.injEq, Prod.mk.injEq] at hc
      obtain ⟨rfl, rfl⟩ := hc
      rw [hk] at hx
      obtain ⟨b, o', e, _⟩ := hx.ref_add
      rw [e] at hx
      exact goes_value (by simp [execOp, hop, e]) h hx
    · rename_i cs hk
      simp only [Option.some.injEq, Prod.mk.injEq] at hc
      obtain ⟨rfl, rfl⟩ := hc
      rw [hk] at hx
      obtain ⟨b, o', e, _⟩ := hx.ipt_add
      rw [e] at hx
      exact goes_value (by simp [execOp, hop, e]) h hx
    · cases hc
  case binOp op t x y ty =>
    cases hb : aBinN L t op (isConstO x || isConstO y) (operand st x) (operand st y) with
    | none => simp [hb] at hc
    | some z =>
      simp only [hb, Option.map_some, Option.some.injEq, Prod.mk.injEq] at hc
      obtain ⟨rfl, rfl⟩ := hc
      obtain ⟨u, g1, g2⟩ := ok_binN (P := P) (s := At st w m) (h.gp hG.gp) h.globs hL (operand_ok h x) (operand_ok h y) x y hb
      exact goes_value (by simp only [execOp, hop]; rw [Sem.run_bind, g1]; rfl) h g2
  case typeAssert x q t ok =>
    cases hb : aAs L t ok (operand st x) with
    | none => simp [hb] at hc
    | some z =>
      simp only [hb, Option.map_some, Option.some.injEq, Prod.mk.injEq] at hc
      obtain ⟨rfl, rfl⟩ := hc
      obtain ⟨u, g1, g2⟩ := ok_as (P := P) (w := w) (h.gp hG.gp) hL (xT := q) (operand_ok h x) hb
      exact goes_value (by simp [execOp, hop, g1]) h g2
  case unOp op t x =>
    cases hb : aUn op (operand st x) with
    | none => simp [hb] at hc
    | some z =>
      simp only [hb, Option.map_some, Option.some.injEq, Prod.mk.injEq] at hc
      obtain ⟨rfl, rfl⟩ := hc
      obtain ⟨u, g1, g2⟩ := ok_un (P := P) (w := w) (operand_ok h x) hb
      exact goes_value (by simp [execOp, hop, g1]) h g2
  case convert s t x =>
    cases hi : L s with
    | none => simp [hi] at hc
    | some i =>
      cases hj : L t with
      | none => simp [hi, hj] at hc
      | some j =>
        simp only [hi, hj, Option.bind_eq_bind, Option.bind_some] at hc
        split at hc
        · rename_i k k' k'' n e1 e2 e3
          simp only [Option.some.injEq, Prod.mk.injEq] at hc
          obtain ⟨rfl, rfl⟩ := hc
          have hx := operand_ok h x
          rw [e3] at hx
          refine goes_value (y := .int k' (k'.wrap n)) ?_ h (.int _ _)
          simp [execOp, hop, convert, run_underlying (intBy hL hi e1), run_underlying (intBy hL hj e2), hx.int_inv, Conv.intToInt]
        · rename_i e e1 e2
          split at hc
          · cases hc
          · cases he : L e with
            | none => simp [he] at hc
            | some ie =>
              simp only [he, Option.bind_some] at hc
              split at hc
              · rename_i e3
                cases hs : slCells st 1 (operand st x) with
                | none => simp [hs] at hc
                | some q =>
                  obtain ⟨n, cells⟩ := q
                  simp only [hs, Option.bind_some] at hc
                  cases hx : u8s cells with
                  | none => simp [hx] at hc
                  | some xs =>
                    simp only [hx, Option.bind_some, Option.some.injEq, Prod.mk.injEq] at hc
                    obtain ⟨rfl, rfl⟩ := hc
                    have g := ok_bytesStr (P := P) h (sliceBy (hL _ _ hi) e1) (intBy hL he e3) (strBy hL hj e2) (operand_ok h x) hs hx
                    exact goes_value (by simp [execOp, hop, g]) h (.str _)
              · cases hc
        · cases hc
  case makeSlice t ln cp =>
    cases he : slElem L t with
    | none => simp [he] at hc
    | some j =>
      simp only [he, Option.bind_eq_bind, Option.bind_some] at hc
      split at hc
      · rename_i k n k' n' e1 e2
        split at hc
        · rename_i hcnd
          obtain ⟨c1, c0, c2, c3, c4, c5, c6⟩ := hcnd
          simp only [Option.some.injEq, Prod.mk.injEq] at hc
          obtain ⟨rfl, rfl⟩ := hc
          obtain ⟨e, i, q1, q2, q3, q4⟩ := slElem_ok hL he
          obtain ⟨y, w', m', g1, g2, g3⟩ := ok_makeSlice (n := n.toNat) (k := n'.toNat) h q3 q4 d k k' (by omega) c2 c5 c6 c3 (by omega)
          have hl := operand_ok h ln
          have hp := operand_ok h cp
          rw [e1] at hl
          rw [e2] at hp
          rw [Int.toNat_of_nonneg c1, Int.toNat_of_nonneg (by omega)] at g1
          exact goes_value (by simp only [execOp, hop, hl.int_inv, hp.int_inv]; rw [Sem.run_bind, g1]; rfl) g2 g3
        · cases hc
      · cases hc
  case makeMap t hint =>
    cases hint with
    | some _ => cases hc
    | none =>
      cases ht : mapTy L t with
      | none => simp [ht] at hc
      | some q =>
        simp only [ht, Option.bind_eq_bind, Option.bind_some, Option.some.injEq, Prod.mk.injEq] at hc
        obtain ⟨rfl, rfl⟩ := hc
        obtain ⟨y, w', m', g1, g2, g3⟩ := ok_makeMap (P := P) h t hd5
        exact goes_value (by simp [execOp, hop, g1]) g2 g3
  case lookup t x ix ok =>
    cases ht : mapTy L t with
    | none => simp [ht] at hc
    | some q =>
      obtain ⟨kt, e⟩ := q
      cases hj : L e with
      | none => simp [ht, hj] at hc
      | some j =>
        have hx := operand_ok h x
        simp only [ht, hj, Option.bind_eq_bind, Option.bind_some] at hc
        have key : ∀ (ks vs : List AV) (es : Array MapEntry), ((a.eval x = .map none ∧ es = #[]) ∨ ∃ r n, a.eval x = .map (some r) ∧ w.heap[r]? = some (.map es n)) →
            VRs (At st w m) false ks (es.toList.map (·.key)) → VRs (At st w m) false vs (es.toList.map (·.val)) →
            ((mlook kt j.zeroAV (operand st ix) ks vs).bind fun p => some (if ok then AV.tup [p.1, .bool p.2] else p.1, st)) = some (v, st') → Goes P c nt a o w v st' := by
          intro ks vs es hes hks hvs hh
          cases hl : mlook kt j.zeroAV (operand st ix) ks vs with
          | none => simp [hl] at hh
          | some p =>
            obtain ⟨v0, is⟩ := p
            simp only [hl, Option.bind_some, Option.some.injEq, Prod.mk.injEq] at hh
            obtain ⟨rfl, rfl⟩ := hh
            obtain ⟨y, g1, g2⟩ := ok_lookup (s := At st w m) hL ht hj hes hks hvs (operand_ok h ix) hl ok
            exact goes_value (by simp only [execOp, hop]; rw [Sem.run_bind]; simp only [At] at g1; rw [g1]; rfl) h g2
        cases hma : mapArg st (operand st x) with
        | none => simp [hma] at hc
        | some p =>
        obtain ⟨ks, vs⟩ := p
        simp only [hma, Option.bind_some] at hc
        unfold mapArg at hma
        split at hma
        · rename_i s g hox
          rw [hox] at hx
          obtain ⟨es, n, e1, e2, e3, e4, _⟩ := h.mapRead hma hx
          exact key ks vs es (.inr ⟨_, n, e1, e2⟩) e3 e4 hc
        · rename_i hox
          rw [hox] at hx
          simp only [Option.some.injEq, Prod.mk.injEq] at hma
          obtain ⟨rfl, rfl⟩ := hma
          have e1 : a.eval x = .map none := by generalize a.eval x = y at hx; cases hx; rfl
          exact key [] [] #[] (.inl ⟨e1, rfl⟩) (.nil _) (.nil _) hc
        · cases hma
  case mapUpdate t x k y =>
    cases ht : mapTy L t with
    | none => simp [ht] at hc
    | some q =>
      obtain ⟨kt, e⟩ := q
      have hx := operand_ok h x
      simp only [ht, Option.bind_eq_bind, Option.bind_some] at hc
      split at hc
      · rename_i s g hs
        rw [hs] at hx
        cases hm : mapOf st s g with
        | none => simp [hm] at hc
        | some p =>
          obtain ⟨ks, vs⟩ := p
          simp only [hm, Option.bind_some] at hc
          split at hc
          · rename_i hcnd
            cases hp : mput kt (operand st k) (operand st y) ks vs with
            | none => simp [hp] at hc
            | some p =>
              simp only [hp, Option.bind_some, Option.some.injEq, Prod.mk.injEq] at hc
              obtain ⟨rfl, rfl⟩ := hc
              obtain ⟨w', g1, g2⟩ := ok_mapUpdate hL h ht hm hx (operand_ok h k) (operand_ok h y) hcnd.1 hcnd.2.2 hp
              exact goes_skip (by simp [execOp, hop, g1]) g2
          · cases hc
      · cases hc
  case fieldAddr t x f =>
    cases hf : fieldOf L t f with
    | none => simp [hf] at hc
    | some p =>
      obtain ⟨k, j⟩ := p
      simp only [hf, Option.bind_eq_bind, Option.bind_some] at hc
      split at hc
      · cases hc
      · rename_i h0
        have hx := operand_ok h x
        split at hc
        · rename_i s g o' hk
          simp only [Option.some.injEq, Prod.mk.injEq] at hc
          obtain ⟨rfl, rfl⟩ := hc
          rw [hk] at hx
          obtain ⟨b, o'', e, hadd⟩ := hx.ref_add
          exact goes_value (by simp [execOp, hop, e, ok_fieldAddr hL hf h0]) h (hadd k)
        · rename_i cs hk
          simp only [Option.some.injEq, Prod.mk.injEq] at hc
          obtain ⟨rfl, rfl⟩ := hc
          rw [hk] at hx
          obtain ⟨b, o'', e, hadd⟩ := hx.ipt_add
          exact goes_value (by simp [execOp, hop, e, ok_fieldAddr hL hf h0]) h (hadd k)
        · cases hc
  case field t x f =>
    cases hf : fieldOf L t f with
    | none => simp [hf] at hc
    | some p =>
      obtain ⟨k, j⟩ := p
      simp only [hf, Option.bind_eq_bind, Option.bind_some] at hc
      split at hc
      · rename_i cs hk
        cases hr : rdCells j cs k with
        | none => simp [hr] at hc
        | some y =>
          simp only [hr, Option.bind_some, Option.some.injEq, Prod.mk.injEq] at hc
          obtain ⟨rfl, rfl⟩ := hc
          have hx := operand_ok h x
          rw [hk] at hx
          obtain ⟨z, g1, g2⟩ := ok_field (w := w) hL hf hx hr
          exact goes_value (by simp [execOp, hop, g1]) h g2
      · cases hc
  case indexAddr t x ix =>
    split at hc
    · cases hc
    cases hi : L t with
    | none => simp [hi] at hc
    | some i =>
      cases hk : asInt? (operand st ix) with
      | none => simp [hi, hk] at hc
      | some k =>
        simp only [hi, hk, Option.bind_eq_bind, Option.bind_some] at hc
        obtain ⟨kk, eix⟩ := asInt_ok (operand_ok h ix) hk
        have hx := operand_ok h x
        split at hc
        · rename_i n e hd'
          cases hj : L e with
          | none => simp [hj] at hc
          | some j =>
            simp only [hj, Option.bind_some] at hc
            split at hc
            · rename_i hb
              have hu := arrBy hL hi hd'
              split at hc
              · rename_i s g o' hk'
                simp only [Option.some.injEq, Prod.mk.injEq] at hc
                obtain ⟨rfl, rfl⟩ := hc
                rw [hk'] at hx
                obtain ⟨b, o'', e1, hadd⟩ := hx.ref_add
                exact goes_value (by simp [execOp, hop, e1, eix, run_indexAt_arr hu (hL _ _ hj) kk k hb.1 hb.2]) h (hadd _)
              · rename_i cs hk'
                simp only [Option.some.injEq, Prod.mk.injEq] at hc
                obtain ⟨rfl, rfl⟩ := hc
                rw [hk'] at hx
                obtain ⟨b, o'', e1, hadd⟩ := hx.ipt_add
                exact goes_value (by simp [execOp, hop, e1, eix, run_indexAt_arr hu (hL _ _ hj) kk k hb.1 hb.2]) h (hadd _)
              · cases hc
            · cases hc
        · rename_i e hd'
          cases hj : L e with
          | none => simp [hj] at hc
          | some j =>
            simp only [hj, Option.bind_some] at hc
            have hu := sliceBy (hL _ _ hi) hd'
            have rd : ∀ {z n : Nat} {cells : List AV}, (∃ ad cap vs, a.eval x = .slice (some ad) n cap ∧ ad.spot = none ∧ cells.length = n * z ∧ Reads (At st w m) ad vs ∧ VRs (At st w m) true cells vs) ∨ (∃ ad cap, a.eval x = .slice ad 0 cap ∧ n = 0 ∧ cells = []) →
                0 ≤ k → k < n → Goes P c nt a o w (.ipt (cells.drop (k.toNat * j.size))) st := by
              intro z n cells hh h0 h1
              rcases hh with ⟨ad, cap, vs, e1, hs, _, hr, hv⟩ | ⟨ad, cap, e1, rfl, rfl⟩
              · refine goes_value (y := .pointer (some (ad.add (k.toNat * j.size)))) (by simp [execOp, hop, e1, eix, run_indexAt_slice hu (hL _ _ hj) kk k h0 n cap h1 ad]) h ?_
                rw [addr_add' hs]
                exact .ipt rfl (hr.drop _) (hv.drop _)
              · omega
            split at hc
            · rename_i s g z o' n hk'
              split at hc
              · rename_i hb
                obtain ⟨b1, b2, b3, b4⟩ := hb
                simp only [Option.some.injEq, Prod.mk.injEq] at hc
                obtain ⟨rfl, rfl⟩ := hc
                rw [hk'] at hx
                obtain ⟨cells, hcells⟩ := Option.isSome_iff_exists.1 b4
                obtain ⟨blk, q1, q2, q3⟩ := blkOf_some hcells
                have hok : okS st.tag st.next g := by cases hx with | msl hok _ _ => exact hok
                rcases (hx.msl_inv q1 q2).2 with ⟨cap, e1, _, _⟩ | ⟨e0, _⟩
                · refine goes_value (y := .pointer (some ((⟨(m.base s).1, (m.base s).2 + o', none⟩ : Addr).add (k.toNat * j.size)))) ?_ h ?_
                  · have e1' : a.eval x = .slice (some ⟨(m.base s).1, (m.base s).2 + o', none⟩) n cap := e1
                    simp [execOp, hop, e1', eix, run_indexAt_slice hu (hL _ _ hj) kk k b2 n cap b3]
                  · rw [addr_add, Nat.add_assoc]
                    exact .ref hok fun blk' _ _ => ⟨rfl, rfl⟩
                · omega
              · cases hc
            · rename_i z n cs hk'
              split at hc
              · rename_i hb
                simp only [Option.some.injEq, Prod.mk.injEq] at hc
                obtain ⟨rfl, rfl⟩ := hc
                rw [hk'] at hx
                exact rd (VR.isl_inv (.inl hx)) hb.2.1 hb.2.2
              · cases hc
            · rename_i z n cs hk'
              split at hc
              · rename_i hb
                simp only [Option.some.injEq, Prod.mk.injEq] at hc
                obtain ⟨rfl, rfl⟩ := hc
                rw [hk'] at hx
                exact rd (VR.isl_inv (.inr hx)) hb.2.1 hb.2.2
              · cases hc
            · cases hc
        · cases hc
  case index t x ix =>
    cases hi : L t with
    | none => simp [hi] at hc
    | some i =>
      cases hk : asInt? (operand st ix) with
      | none => simp [hi, hk] at hc
      | some k =>
        simp only [hi, hk, Option.bind_eq_bind, Option.bind_some] at hc
        obtain ⟨kk, eix⟩ := asInt_ok (operand_ok h ix) hk
        have hx := operand_ok h x
        split at hc
        · rename_i n e cs hd' hk'
          cases hj : L e with
          | none => simp [hj] at hc
          | some j =>
            simp only [hj, Option.bind_some] at hc
            split at hc
            · rename_i hb
              cases hr : rdCells j cs (k.toNat * j.size) with
              | none => simp [hr] at hc
              | some y =>
                simp only [hr, Option.bind_some, Option.some.injEq, Prod.mk.injEq] at hc
                obtain ⟨rfl, rfl⟩ := hc
                rw [hk'] at hx
                obtain ⟨z, g1, g2⟩ := ok_index_arr (w := w) (arrBy hL hi hd') (hL _ _ hj) hx kk k hb.1 hb.2 hr
                exact goes_value (by simp [execOp, hop, eix, g1]) h g2
            · cases hc
        · rename_i s hd' hk'
          split at hc
          · rename_i h0
            cases hb : s[k.toNat]? with
            | none => simp [hb] at hc
            | some u =>
              simp only [hb, Option.map_some, Option.some.injEq, Prod.mk.injEq] at hc
              obtain ⟨rfl, rfl⟩ := hc
              rw [hk'] at hx
              have := hx.str_inv
              exact goes_value (by simp [execOp, hop, eix, this, ok_index_str (strBy hL hi hd') kk k h0 hb]) h (.int _ _)
          · cases hc
        · cases hc
  case slice t x lo hi' mx =>
    cases mx with
    | some mx =>
      simp only at hc
      split at hc
      · cases hc
      · cases hi : L t with
        | none => simp [hi] at hc
        | some i =>
          simp only [hi, Option.bind_eq_bind, Option.bind_some] at hc
          split at hc
          · rename_i e hd'
            cases hj : L e with
            | none => simp [hj] at hc
            | some j =>
              simp only [hj, Option.bind_some] at hc
              cases hn : slLen (operand st x) with
              | none => simp [hn] at hc
              | some n =>
                cases hk : asInt? (operand st mx) with
                | none => simp [hn, hk] at hc
                | some k =>
                  cases eh : bnd (-1) (hi'.map (operand st)) with
                  | none => simp [hn, hk, eh] at hc
                  | some hh =>
                    cases el : bnd 0 (lo.map (operand st)) with
                    | none => simp [hn, hk, eh, el] at hc
                    | some l =>
                      simp only [hn, hk, eh, el, Option.bind_some] at hc
                      split at hc
                      · rename_i hcnd
                        simp only [Option.some.injEq, Prod.mk.injEq] at hc
                        obtain ⟨rfl, rfl⟩ := hc
                        obtain ⟨y, g1, g2⟩ := ok_slice3 (P := P) h (sliceBy (hL _ _ hi) hd') (hL _ _ hj) hn hk eh el hcnd
                        exact goes_value (by simp only [execOp, hop]; rw [Sem.run_bind, g1]; rfl) h g2
                      · cases hc
          · cases hc
    | none =>
    simp only at hc
    split at hc
    · cases hc
    · cases hi : L t with
      | none => simp [hi] at hc
      | some i =>
        simp only [hi, Option.bind_eq_bind, Option.bind_some] at hc
        have hx := operand_ok h x
        split at hc
        · rename_i hd'
          cases hs : aStrSlice (operand st x) (lo.map (operand st)) (hi'.map (operand st)) with
          | none => simp [hs] at hc
          | some y =>
            simp only [hs, Option.bind_some, Option.some.injEq, Prod.mk.injEq] at hc
            obtain ⟨rfl, rfl⟩ := hc
            unfold aStrSlice at hs
            split at hs
            · rename_i s hk'
              rw [hk'] at hx
              have ex := hx.str_inv
              cases eh : bnd s.size (hi'.map (operand st)) with
              | none => simp [eh] at hs
              | some hh =>
                cases el : bnd 0 (lo.map (operand st)) with
                | none => simp [eh, el] at hs
                | some l =>
                  simp only [eh, el, Option.bind_eq_bind, Option.bind_some] at hs
                  split at hs
                  · rename_i hb
                    simp only [Option.some.injEq] at hs
                    subst hs
                    obtain ⟨b1, b2, b3, b4⟩ := bounds_of h el eh
                    have hbd := ok_bounds (P := P) (w := w) false s.size s.size (Nat.le_refl _) b1 b2 b3 b4 el eh hb.1 hb.2.1 hb.2.2
                    have hu := strBy hL hi hd'
                    exact goes_value (by simp [execOp, hop, ex, Instr.sliceAt, Instr.slice, run_underlying hu, hbd]) h (.str _)
                  · cases hs
            · cases hs
        · rename_i e hd'
          cases hj : L e with
          | none => simp [hj] at hc
          | some j =>
            simp only [hj, Option.bind_some] at hc
            cases hs : aSlice j.size (operand st x) (lo.map (operand st)) (hi'.map (operand st)) with
            | none => simp [hs] at hc
            | some y =>
              simp only [hs, Option.bind_some, Option.some.injEq, Prod.mk.injEq] at hc
              obtain ⟨rfl, rfl⟩ := hc
              obtain ⟨z, g1, g2⟩ := ok_aSlice h (sliceBy (hL _ _ hi) hd') (hL _ _ hj) hs
              exact goes_value (by simp only [execOp, hop, Option.map_none]; rw [Sem.run_bind, g1]; rfl) h g2
        · rename_i n e hd'
          cases hj : L e with
          | none => simp [hj] at hc
          | some j =>
            simp only [hj, Option.bind_some] at hc
            split at hc
            · rename_i s g k hk'
              cases hb : blkOf st s g with
              | none => simp [hb] at hc
              | some cells =>
                simp only [hb, Option.bind_some] at hc
                split at hc
                · rename_i hle
                  cases hs : aSlice j.size (.msl s g j.size k n) (lo.map (operand st)) (hi'.map (operand st)) with
                  | none => simp [hs] at hc
                  | some y =>
                    simp only [hs, Option.bind_some, Option.some.injEq, Prod.mk.injEq] at hc
                    obtain ⟨rfl, rfl⟩ := hc
                    obtain ⟨z, g1, g2⟩ := ok_aSliceArr h (arrBy hL hi hd') (hL _ _ hj) hk' hb hle hs
                    exact goes_value (by simp only [execOp, hop, Option.map_none]; rw [Sem.run_bind, g1]; rfl) h g2
                · cases hc
            · cases hc
        · cases hc
  case extract x k =>
    split at hc
    · rename_i vs hk'
      cases hv : vs[k]? with
      | none => simp [hv] at hc
      | some y =>
        simp only [hv, Option.bind_eq_bind, Option.bind_some, Option.some.injEq, Prod.mk.injEq] at hc
        obtain ⟨rfl, rfl⟩ := hc
        have hx := operand_ok h x
        rw [hk'] at hx
        obtain ⟨us, e1, hus⟩ := hx.tup_inv
        obtain ⟨u, g1, g2, _⟩ := hus.get hv
        exact goes_value (by simp [execOp, hop, e1, Instr.extract, g1]) h g2
    · cases hc
  case makeFunc fn first captured =>
    split at hc
    · rename_i f
      split at hc
      · rename_i h0
        split at hc
        · rename_i htop
          simp only [Option.some.injEq, Prod.mk.injEq] at hc
          obtain ⟨rfl, rfl⟩ := hc
          have hf0 : first = #[] := Array.eq_empty_of_size_eq_zero h0
          subst hf0
          have key : ∀ l : List Operand, (l.map (operand st)).all AV.isRef = true → VRs (At st w m) true (l.map (operand st)) (l.map a.eval) := by
            intro l
            induction l with
            | nil => intro _; exact .nil _
            | cons x l ih =>
              intro hh
              simp only [List.map_cons, List.all_cons, Bool.and_eq_true] at hh
              have hx := operand_ok h x
              have hr := hh.1
              show VRs _ true (operand st x :: l.map (operand st)) (a.eval x :: l.map a.eval)
              generalize operand st x = av at hx hr ⊢
              cases av <;> simp only [AV.isRef] at hr <;> first | (cases hr; done) | skip
              obtain ⟨b, o', e, _⟩ := hx.ref_add
              exact .cons (fun _ => ⟨by rw [e]; rfl, rfl⟩) hx (ih hh.2)
          refine goes_value (y := .func (.func f) #[] (captured.map a.eval)) (by simp [execOp, hop, Instr.makeFunc]) h ?_
          have := VR.fn (s := At st w m) (f := f) (key captured.toList htop)
          have e : (captured.toList.map a.eval).toArray = captured.map a.eval := by apply Array.ext'; simp
          rw [e] at this
          exact this
        · cases hc
      · cases hc
    · cases hc
  case call cl =>
    split at hc
    · rename_i b hb
      split at hc
      · simp only [Option.bind_eq_some_iff] at hc
        obtain ⟨⟨avs', st1⟩, h1, h2⟩ := hc
        obtain ⟨m1, g1, g2⟩ := shorten_ok h (operands_ok h false cl.args.toList rfl) h1
        exact builtin_goes hL g1 hop hb g2 h2
      exact builtin_goes hL h hop hb (operands_ok h false cl.args.toList rfl) hc
    · rename_i f hf
      split at hc
      · rename_i g captured hfn
        split at hc
        · exact hCall_goes hΓ hG.gp h hop hf hfn hc
        split at hc
        · cases hc
        split at hc
        · exact aCall_goes hΓ hG.gp h hop hf hfn (roCall_aCall (d := d) hc)
        exact aCall_goes hΓ hG.gp h hop hf hfn hc
      · cases hc
    · cases hc

end

end Go.Sim
