/- The interpreter's operations are the model's: part 5: one operation, all but calls. -/
import Derived.Test.YtmckiigefkfpaaaDoorSimMore
set_option linter.unusedVariables false
set_option linter.unusedSimpArgs false
namespace Go.Sim
open Go

/-- An operation goes on as the interpreter says. -/
def Goes (P : Program) (c : Cx) (nt : Nat) (a : Act) (o : Oper) (w : World) (v : AV) (st' : St) : Prop :=
  ∀ (next : Act → World → Prop) (Q : Exit → Act → World → Prop), (∀ y w' m', RelM c nt st' a w' m' → VR (At st' w' m') v y → next (a.put o.dst y) w') → o.upon P a next Q ((execOp a.eval o).run P w)

section
variable {P : Program} {c : Cx} {nt : Nat} {st : St} {a : Act} {w : World} {m : Mp} {o : Oper} {v : AV} {st' : St}

theorem goes_value {y : Value} {w' : World} {m' : Mp} (hr : (execOp a.eval o).run P w = .ok (.value y) w') (h : RelM c nt st' a w' m') (hv : VR (At st' w' m') v y) : Goes P c nt a o w v st' :=
  fun next Q hn => by rw [hr]; exact hn _ _ _ h hv

theorem goes_skip {w' : World} {m' : Mp} (hr : (execOp a.eval o).run P w = .ok .skip w') (h : RelM c nt st' a w' m') : Goes P c nt a o w (.tup []) st' :=
  fun next Q hn => by rw [hr]; exact hn _ _ _ h (.tup (vs := []) (.nil _))

theorem operands_ok (h : RelM c nt st a w m) (one : Bool) : ∀ (l : List Operand), one = false → VRs (At st w m) one (l.map (operand st)) (l.map a.eval)
  | [], _ => .nil _
  | x :: l, e => .cons (fun e' => by rw [e] at e'; cases e') (operand_ok h x) (operands_ok h one l e)

theorem parts_ok (h : RelM c nt st a w m) (ps : Array (Nat × Operand)) : PQs (At st w m) (parts st ps) (ps.map fun (i, x) => (i, a.eval x)).toList := by
  simp only [parts, Array.toList_map]
  induction ps.toList with
  | nil => exact .nil
  | cons p l ih => exact .cons (operand_ok h p.2) ih

theorem asInts {L : Nat → Option TI} (h : RelM c nt st a w m) {x : Option Operand} : (∀ av, x.map (operand st) = some av → ∀ n, asInt? av = some n → ∃ k, x.map a.eval = some (.int k n)) := by
  intro av e n hn
  cases x with
  | none => simp at e
  | some x =>
    simp only [Option.map_some, Option.some.injEq] at e
    subst e
    obtain ⟨k, hk⟩ := asInt_ok (operand_ok h x) hn
    exact ⟨k, by simp [hk]⟩

theorem bounds_of (h : RelM c nt st a w m) {lo hi : Option Operand} {n l hh : Int}
    (el : bnd 0 (lo.map (operand st)) = some l) (eh : bnd n (hi.map (operand st)) = some hh) :
    (∀ av, lo.map (operand st) = some av → ∃ k n, lo.map a.eval = some (.int k n) ∧ asInt? av = some n) ∧ (lo.map (operand st) = none → lo.map a.eval = none) ∧
    (∀ av, hi.map (operand st) = some av → ∃ k n, hi.map a.eval = some (.int k n) ∧ asInt? av = some n) ∧ (hi.map (operand st) = none → hi.map a.eval = none) := by
  have key : ∀ (x : Option Operand) (d : Int) (r : Int), bnd d (x.map (operand st)) = some r →
      (∀ av, x.map (operand st) = some av → ∃ k n, x.map a.eval = some (.int k n) ∧ asInt? av = some n) ∧ (x.map (operand st) = none → x.map a.eval = none) := by
    intro x d r e
    cases x with
    | none => exact ⟨by simp, by simp⟩
    | some x =>
      simp only [Option.map_some, bnd] at e
      refine ⟨fun av hav => ?_, by simp⟩
      simp only [Option.map_some, Option.some.injEq] at hav
      subst hav
      obtain ⟨k, hk⟩ := asInt_ok (operand_ok h x) e
      exact ⟨k, r, by simp [hk], e⟩
  exact ⟨(key lo _ l el).1, (key lo _ l el).2, (key hi _ hh eh).1, (key hi _ hh eh).2⟩

/-- 'x[lo:hi]' of a slice. -/
theorem ok_aSlice (h : RelM c nt st a w m) {t e : Nat} {j : TI} (hu : P.underlying t = some (.slice e)) (hj : TIOK P e j) {x : Operand} {lo hi : Option Operand} {v : AV}
    (hs : aSlice j.size (operand st x) (lo.map (operand st)) (hi.map (operand st)) = some v) :
    ∃ y, (Instr.sliceAt t (a.eval x) (lo.map a.eval) (hi.map a.eval) none).run P w = .ok y w ∧ VR (At st w m) v y := by
  unfold aSlice at hs
  have hx := operand_ok h x
  cases hn : slLen (operand st x) with
  | none => simp [hn] at hs
  | some n =>
    simp only [hn, Option.bind_eq_bind, Option.bind_some] at hs
    cases eh : bnd n (hi.map (operand st)) with
    | none => rw [eh] at hs; simp at hs
    | some hh =>
      rw [eh] at hs
      simp only [Option.bind_some] at hs
      cases el : bnd 0 (lo.map (operand st)) with
      | none => rw [el] at hs; simp at hs
      | some l =>
        rw [el] at hs
        simp only [Option.bind_some] at hs
        split at hs
        · rename_i hc
          obtain ⟨h0, h1, h2⟩ := hc
          rcases slLen_ok hx hn with ⟨b, e1, _, _⟩ | ⟨pa, cap, e1, hcap⟩
          · rw [e1] at hs; simp [cutA] at hs
          · rw [e1] at hx ⊢
            obtain ⟨b1, b2, b3, b4⟩ := bounds_of h el eh
            have hb := ok_bounds (P := P) (w := w) true n cap hcap b1 b2 b3 b4 el eh h0 h1 h2
            exact ⟨_, run_slice_sl hu hj hb, ok_cut hx hcap (by omega) (by omega) hs⟩
        · cases hs

/-- 'x[lo:hi]' of an array of one's own. -/
theorem ok_aSliceArr (h : RelM c nt st a w m) {t n e : Nat} {j : TI} (hu : P.underlying t = some (.array n e)) (hj : TIOK P e j) {x : Operand} {lo hi : Option Operand} {v : AV} {k : Nat} {σ : Nat × Nat} {off : Nat}
    (hx0 : operand st x = .ref k σ off) {cells : List AV} (hb : blkOf st k σ = some cells) (hle : off + n * j.size ≤ cells.length)
    (hs : aSlice j.size (.msl k σ j.size off n) (lo.map (operand st)) (hi.map (operand st)) = some v) :
    ∃ y, (Instr.sliceAt t (a.eval x) (lo.map a.eval) (hi.map a.eval) none).run P w = .ok y w ∧ VR (At st w m) v y := by
  unfold aSlice at hs
  have hx := operand_ok h x
  rw [hx0] at hx
  obtain ⟨blk, h1, h2, rfl⟩ := blkOf_some hb
  have hx' := hx.ref_inv h1 h2
  rw [hx'] at hx
  simp only [slLen, Option.bind_eq_bind, Option.bind_some] at hs
  cases eh : bnd n (hi.map (operand st)) with
  | none => rw [eh] at hs; simp at hs
  | some hh =>
    rw [eh] at hs
    simp only [Option.bind_some] at hs
    cases el : bnd 0 (lo.map (operand st)) with
    | none => rw [el] at hs; simp at hs
    | some l =>
      rw [el] at hs
      simp only [Option.bind_some] at hs
      split at hs
      · rename_i hc
        obtain ⟨h0, h1', h2'⟩ := hc
        obtain ⟨b1, b2, b3, b4⟩ := bounds_of h el eh
        have hbd := ok_bounds (P := P) (w := w) false n n (Nat.le_refl _) b1 b2 b3 b4 el eh h0 h1' h2'
        have hms : VR (At st w m) (.msl k σ j.size off n) (.slice (some ⟨(m.base k).1, (m.base k).2 + off, none⟩) n n) := by
          cases hx with
          | ref hok hl =>
            refine .msl hok ⟨rfl, Nat.le_refl _⟩ fun blk' hb' hs' => ?_
            have : blk' = blk := by
              have e1 : aget k st.heap = some blk' := hb'
              rw [h1] at e1; cases e1; rfl
            subst this
            refine ⟨hle, .inl ⟨n, rfl, Nat.le_refl _, ?_⟩⟩
            rcases h.blkAt h1 with ⟨q1, q2⟩ | ⟨cs, ty', fr, r1, r2, r3, _⟩
            · rw [q1] at hle; simp at hle; show off + n * j.size ≤ m.ext k; omega
            · show off + n * j.size ≤ m.ext k; omega
        rw [hx']
        exact ⟨_, run_slice_arr hu hj hbd, ok_cut hms (Nat.le_refl _) (by omega) (by omega) hs⟩
      · cases hs

/-- 'x[l:l:l]'. -/
theorem ok_slice3 (h : RelM c nt st a w m) {t e : Nat} {j : TI} (hu : P.underlying t = some (.slice e)) (hj : TIOK P e j) {x mx : Operand} {lo hi : Option Operand} {n : Nat} {l hh k : Int}
    (hn : slLen (operand st x) = some n) (hk : asInt? (operand st mx) = some k) (eh : bnd (-1) (hi.map (operand st)) = some hh) (el : bnd 0 (lo.map (operand st)) = some l)
    (hc : 0 ≤ l ∧ l = hh ∧ hh = k ∧ k ≤ n ∧ (operand st x).isStr = false) :
    ∃ y, (Instr.sliceAt t (a.eval x) (lo.map a.eval) (hi.map a.eval) ((some mx).map a.eval)).run P w = .ok y w ∧ VR (At st w m) .nsl y := by
  obtain ⟨h0, rfl, rfl, h1, h2⟩ := hc
  have hx := operand_ok h x
  obtain ⟨km, hm⟩ := asInt_ok (operand_ok h mx) hk
  rcases slLen_ok hx hn with ⟨b, e1, _, _⟩ | ⟨pa, cap, e1, hcap⟩
  · rw [e1] at h2; cases h2
  · refine ⟨.slice pa 0 0, ?_, .nsl⟩
    have bb : ∀ (kk : IntKind) (y : Nat) (code : BoundsCode), l ≤ y → (Instr.sliceBound (.int kk l) y code).run P w = .ok l.toNat w := fun kk y code hy => run_bound kk l y code h0 hy
    have hlt : (l.toNat : Int) = l := Int.toNat_of_nonneg h0
    rw [e1, Option.map_some, hm]
    cases hi with
    | none => simp only [Option.map_none, bnd, Option.some.injEq] at eh; omega
    | some hi =>
      simp only [Option.map_some, bnd] at eh
      obtain ⟨kh, hkh⟩ := asInt_ok (operand_ok h hi) eh
      rw [Option.map_some, hkh]
      have e2 := bb km cap .slice3Acap (by omega)
      have e3 := bb kh l.toNat .slice3B (by omega)
      cases lo with
      | none =>
        simp only [Option.map_none, bnd, Option.some.injEq] at el
        have hl0 : l = 0 := el.symm
        subst hl0
        simp [Instr.sliceAt, Instr.slice, Instr.sliceBounds, run_underlying hu, hj.run_size, e2] at e3 ⊢
        simp [e3]
      | some lo =>
        simp only [Option.map_some, bnd] at el
        obtain ⟨kl, hkl⟩ := asInt_ok (operand_ok h lo) el
        rw [Option.map_some, hkl]
        have e4 := bb kl l.toNat .slice3C (by omega)
        simp [Instr.sliceAt, Instr.slice, Instr.sliceBounds, run_underlying hu, hj.run_size, e2, e3, e4]

theorem TIOK.zeroVals {t : Nat} {i : TI} (hi : TIOK P t i) (s : S) : ∃ z, (∀ w, (zeroValue t).run P w = .ok z w) ∧ VRs s true i.zero z.cells.toList ∧ z.cells.size = i.zero.length := by
  obtain ⟨z, hz, hr⟩ := hi.run_zero
  have hv := ofCells_ok s _ _ hz
  exact ⟨z, hr, hv, by have := hv.length; simp at this; omega⟩

theorem VRs.repl {s : S} {cs : List AV} {vs : List Value} (h : VRs s true cs vs) (n : Nat) : VRs s true (repl n cs) (List.replicate n vs).flatten := by
  unfold Sim.repl
  induction n with
  | zero => exact .nil _
  | succ n ih => simp only [List.replicate_succ, List.flatten_cons]; exact h.append ih

theorem places_ok : ∀ (fs : List Field), (∀ f ∈ fs, (P.info? f.type).isSome = true) →
    ∃ places, fs.mapM (fun f => (P.info? f.type).map fun i => (f.offset, i.size)) = some places ∧ ∀ (k : Nat) (f : Field) (i : TypeInfo), fs[k]? = some f → P.info? f.type = some i → places[k]? = some (f.offset, i.size)
  | [], _ => ⟨[], rfl, fun k f i h => by simp at h⟩
  | f :: fs, h => by
    obtain ⟨places, h1, h2⟩ := places_ok fs (fun g hg => h g (by simp [hg]))
    obtain ⟨i, hi⟩ := Option.isSome_iff_exists.1 (h f (by simp))
    refine ⟨(f.offset, i.size) :: places, by simp [List.mapM_cons, hi, h1], fun k g j hk hj => ?_⟩
    cases k with
    | zero => simp at hk; subst hk; rw [hi] at hj; cases hj; rfl
    | succ k => simp at hk; simpa using h2 k g j hk hj

theorem ok_build (h : RelM c nt st a w m) {t : Nat} {i : TI} (hi : TIOK P t i) {L : Nat → Option TI} (hL : LOK P L) (ps : Array (Nat × Operand)) {cells : List AV}
    (hf : (∃ fs, i.desc = .strct fs ∧ fillA (fun k => do let (o, ty) ← fs[k]?; let j ← L ty; some (o, j.size)) i.zero (parts st ps) = some cells) ∨
      (∃ n e j, i.desc = .arr n e ∧ L e = some j ∧ fillA (fun k => some (k * j.size, j.size)) i.zero (parts st ps) = some cells)) :
    ∃ vs, (Instr.build t (ps.map fun (i, x) => (i, a.eval x))).run P w = .ok (.agg vs) w ∧ VR (At st w m) (.agg cells) (.agg vs) := by
  have hp := parts_ok h ps
  obtain ⟨info, d, z, q1, q2, q3, q4, q5, q6, q7, q8⟩ := hi
  have hzv := ofCells_ok (At st w m) _ _ q7
  rcases hf with ⟨fs, hd, hf⟩ | ⟨n, e, j, hd, hj, hf⟩
  · rw [hd] at q3
    cases d <;> simp only [TDOK] at q3
    rename_i fields
    obtain ⟨q3, q8⟩ := q3
    obtain ⟨places, p1, p2⟩ := places_ok (P := P) fields.toList (List.all_eq_true.1 q8)
    obtain ⟨vs, g1, g2⟩ := ok_fill (place := (places.toArray[·]?)) _ _ _ _ _ hp (fun p _ r hr => by
      cases hk : fs[p.1]? with
      | none => simp [hk] at hr
      | some q =>
        obtain ⟨o', ty⟩ := q
        cases hj : L ty with
        | none => simp [hk, hj] at hr
        | some jj =>
          simp only [hk, hj, Option.bind_eq_bind, Option.bind_some, Option.some.injEq] at hr
          subst hr
          rw [← q3, List.getElem?_map] at hk
          cases hg : fields.toList[p.1]? with
          | none => simp [hg] at hk
          | some fd =>
            simp only [hg, Option.map_some, Option.some.injEq, Prod.mk.injEq] at hk
            obtain ⟨rfl, rfl⟩ := hk
            obtain ⟨ij, _, _, e1, _, _, e2, _⟩ := hL _ _ hj
            simpa [e2] using p2 p.1 fd ij hg e1) hzv hf
    refine ⟨vs.toArray, run_build w t _ _ ?_, .agg g2⟩
    simpa [Program.built, q1, q2, q6, p1] using g1
  · rw [hd] at q3
    cases d <;> simp only [TDOK] at q3
    obtain ⟨rfl, rfl⟩ := q3
    obtain ⟨ij, _, _, e1, _, _, e2, _⟩ := hL _ _ hj
    obtain ⟨vs, g1, g2⟩ := ok_fill (place := fun k => some (k * j.size, j.size)) _ _ _ _ _ hp (fun p _ r hr => hr) hzv hf
    refine ⟨vs.toArray, run_build w t _ _ ?_, .agg g2⟩
    simpa [Program.built, q1, q2, q6, e1, e2] using g1

theorem ok_buildSlice (h : RelM c nt st a w m) {t e n : Nat} {j : TI} (hu : P.underlying t = some (.slice e)) (hj : TIOK P e j) {ps : List (Nat × AV)} {qs : Array (Nat × Value)} (hp : PQs (At st w m) ps qs.toList) {cells : List AV} (d : Nat)
    (h1 : n * j.size ≤ 16777216) (h2 : j.zero.length = j.size) (h3 : 0 < j.size) (hf : fillA (fun k => some (k * j.size, j.size)) (repl n j.zero) ps = some cells) (hk : isMapKey d = false := by first | assumption | (apply blkOf_key; assumption)) :
    ∃ y w' m', (Instr.buildSlice t n qs).run P w = .ok y w' ∧ RelM c nt (newBlk st d cells).2 a w' m' ∧
      VR (At (newBlk st d cells).2 w' m') (.msl d (newBlk st d cells).1 j.size 0 n) y := by
  obtain ⟨z, hz, hzv, hzs⟩ := hj.zeroVals (At st w m)
  obtain ⟨vs, g1, g2⟩ := ok_fill (place := fun k => some (k * j.size, j.size)) _ _ _ _ _ hp (fun p _ r hr => hr) (hzv.repl n) hf
  have hrow : ((Array.range (n * j.size)).map fun i => z.cells[i % z.cells.size]!) = (List.replicate n z.cells.toList).flatten.toArray := by
    apply Array.ext'
    have := range_repl z.cells n
    rw [hzs, h2] at this
    rw [hzs, h2]
    simpa using this
  have hlen : cells.length = n * j.size := by
    have key : ∀ (place : Nat → Option (Nat × Nat)) (ps : List (Nat × AV)) (cs cs' : List AV), fillA place cs ps = some cs' → cs'.length = cs.length := by
      intro place ps
      induction ps with
      | nil => intro cs cs' hh; simp only [fillA, Option.some.injEq] at hh; rw [hh]
      | cons p ps ih =>
        intro cs cs' hh
        obtain ⟨i, v⟩ := p
        unfold fillA at hh
        split at hh
        · cases hh
        · split at hh
          · rename_i hc
            rw [ih _ _ hh]; simp [setR]; omega
          · cases hh
    rw [key _ _ _ _ hf]; simp [repl, h2]
  have hvl := g2.length
  have hn := h.new d g2 vs.toArray (n * j.size) e (fun k v hk => by simpa using hk) (by simp; omega) (by omega)
  refine ⟨.slice (some ⟨w.heap.size, 0, none⟩) n n, _, _, ?_, hn.1, VR.new_msl h.next1 d _ _ j.size n n hlen (Nat.le_refl _)⟩
  have hbig : ¬ (16777216 < n * j.size) := by omega
  by_cases h0 : n * j.size = 0
  · have hn0 : n = 0 := by
      rcases Nat.mul_eq_zero.1 h0 with x | x
      · exact x
      · omega
    subst hn0
    simp only [Instr.buildSlice, Sem.run_bind, run_underlying hu, Result.andThen_ok, hj.run_size]
    simp only [List.replicate_zero, List.flatten_nil] at g1
    simp [g1, newRow, show (Array.range 0 : Array Nat) = #[] from rfl]
  · simp only [Instr.buildSlice, Sem.run_bind, run_underlying hu, Result.andThen_ok, hj.run_size]
    rw [if_neg (by simpa using hbig)]
    simp only [h0, if_false, Sem.run_bind, hz, Result.andThen_ok, Sem.run_pure, hrow]
    simp [g1, newRow]

theorem ok_makeSlice (h : RelM c nt st a w m) {t e n k : Nat} {j : TI} (hu : P.underlying t = some (.slice e)) (hj : TIOK P e j) (d : Nat) (kl kc : IntKind) (hnk : n ≤ k)
    (h1 : k * j.size ≤ 16777216) (h2 : j.zero.length = j.size) (h3 : 0 < j.size) (h4 : k * j.bytes ≤ 140737488355328) (h5 : k ≤ 140737488355328) (hk : isMapKey d = false := by first | assumption | (apply blkOf_key; assumption)) :
    ∃ y w' m', (Instr.makeSlice t (.int kl (n : Int)) (.int kc (k : Int))).run P w = .ok y w' ∧ RelM c nt (newBlk st d (repl n j.zero)).2 a w' m' ∧
      VR (At (newBlk st d (repl n j.zero)).2 w' m') (.msl d (newBlk st d (repl n j.zero)).1 j.size 0 n) y := by
  obtain ⟨info, de, z, hinfo, _, _, hsz, hby, hzero, hzc, hzd⟩ := hj
  have hzv := ofCells_ok (At st w m) _ _ hzc
  have hzl : z.cells.size = j.size := by have := hzv.length; simp at this; omega
  have hb' : (info.bytes : Int) * (k : Int) ≤ 281474976710656 := by
    have : ((k * j.bytes : Nat) : Int) ≤ 281474976710656 := by omega
    rw [hby, Int.mul_comm]
    rwa [Int.natCast_mul] at this
  have hr := run_makeSlice (P := P) w t e info z hu hinfo hzero kl kc n k (by omega) (by omega) (by rw [hsz]; simpa using h1) hb' (by omega)
  simp only [Int.toNat_natCast] at hr
  have hrow : (madeCells z.cells (k * info.size)).toList = (List.replicate k z.cells.toList).flatten := by
    have := range_repl z.cells k
    rw [hzl] at this
    rw [hsz, ← this]
    simp [madeCells, hzl]
  have hle : n * j.size ≤ k * j.size := Nat.mul_le_mul_right _ hnk
  have hn := h.new d (hzv.repl n) (madeCells z.cells (k * info.size)) (k * j.size) e (fun i v hk => by
      rw [← Array.getElem?_toList, hrow]
      obtain ⟨r, rfl⟩ : ∃ r, k = n + r := ⟨k - n, by omega⟩
      rw [← List.replicate_append_replicate, List.flatten_append, List.getElem?_append_left (List.getElem?_eq_some_iff.1 hk).1]
      exact hk) (by rw [size_madeCells, hsz]; omega) (by
      have := (hzv.repl n).length
      have h6 : (repl n j.zero).length = n * j.size := by simp [Sim.repl, h2]
      omega)
  exact ⟨_, _, _, hr, hn.1, VR.new_msl h.next1 d _ _ j.size n k (by simp [Sim.repl, h2]) hnk⟩

theorem u8s_ok {s : S} {one : Bool} : ∀ {cells : List AV} {vs : List Value} {xs : List Int}, VRs s one cells vs → u8s cells = some xs → vs = xs.map (.int .u8)
  | [], _, xs, hv, h => by
    cases hv
    simp only [u8s, Option.some.injEq] at h
    subst h; rfl
  | c :: cells, _, xs, hv, h => by
    cases hv with
    | cons h1 hc hs =>
      unfold u8s at h
      split at h
      · rename_i he; cases he
      · rename_i n l he
        cases he
        cases hl : u8s cells with
        | none => simp [hl] at h
        | some ys =>
          simp only [hl, Option.map_some, Option.some.injEq] at h
          subst h
          rw [hc.int_inv, u8s_ok hs hl]; rfl
      · cases h

theorem ok_bytesStr (h : RelM c nt st a w m) {t t' e : Nat} (hs : P.underlying t = some (.slice e)) (he : P.underlying e = some (.int .u8)) (hd : P.underlying t' = some .string) {v : AV} {x : Value} (hx : VR (At st w m) v x)
    {n : Nat} {cells : List AV} {xs : List Int} (hc : slCells st 1 v = some (n, cells)) (hu : u8s cells = some xs) : (convert t t' x).run P w = .ok (.string (strOfNums xs)) w := by
  obtain ⟨vs, g1, g2, g3⟩ := ok_slCells h hx hc
  have hvs := u8s_ok g1 hu
  have hl := g1.length
  subst hvs
  simp only [List.length_map] at hl
  rcases g3 with ⟨ad, cap, rfl, ha, hcell⟩ | ⟨ad, cap, rfl, rfl⟩
  · have := run_convert_bytes_arg (P := P) w t e hs he ad.block ad.off n cap xs (by omega) (fun i hi => by
      have hj : (xs.map (Value.int .u8))[i]? = some (.int .u8 (xs.getD i 0)) := by
        rw [List.getElem?_map, List.getElem?_eq_getElem (by omega)]; simp [List.getD_eq_getElem?_getD, List.getElem?_eq_getElem (show i < xs.length by omega)]
      have := hcell i _ hj
      rwa [addr_add' ha] at this) t' hd
    rwa [addr_eta ha]
  · have hxs : xs = [] := List.eq_nil_of_length_eq_zero (by omega)
    subst hxs
    cases ad with
    | none =>
      rw [run_convert_bytes_nil (P := P) w t e hs he 0 cap t' hd]
      rfl
    | some ad =>
      rw [run_convert_bytes_string w t t' e (some ad) 0 cap hs he hd, run_bytesToString w ad 0 cap [] (by simp [loadCells, loadCellsFrom])]
      rfl

/-! ## builtins -/

theorem run_len_slice {t e : Nat} (hu : P.underlying t = some (.slice e)) (ty : Nat) (ts : Array Nat) (ht : ts[0]? = some t) (pa : Option Addr) (n cap : Nat) :
    (Builtin.len_ ts ty #[.slice pa n cap]).run P w = .ok (.int .i64 n) w := by
  simp [Builtin.len_, ht, run_underlying hu, goInt]

theorem run_len_str {t : Nat} (hu : P.underlying t = some .string) (ty : Nat) (ts : Array Nat) (ht : ts[0]? = some t) (b : ByteArray) :
    (Builtin.len_ ts ty #[.string b]).run P w = .ok (.int .i64 b.size) w := by
  simp [Builtin.len_, ht, run_underlying hu, goInt]

theorem run_len_arr {t n e : Nat} (hu : P.underlying t = some (.array n e)) (ty : Nat) (ts : Array Nat) (ht : ts[0]? = some t) (x : Value) :
    (Builtin.len_ ts ty #[x]).run P w = .ok (.int .i64 n) w := by
  simp [Builtin.len_, ht, run_underlying hu, goInt]

theorem VRs.one_inv {s : S} {one : Bool} {x : AV} {vs : List Value} (h : VRs s one [x] vs) : ∃ v, vs = [v] ∧ VR s x v := by
  cases h with | cons h1 hv hs => cases hs; exact ⟨_, rfl, hv⟩

theorem VRs.two_inv {s : S} {one : Bool} {x y : AV} {vs : List Value} (h : VRs s one [x, y] vs) : ∃ v u, vs = [v, u] ∧ VR s x v ∧ VR s y u := by
  cases h with | cons h1 hv hs => obtain ⟨u, rfl, hu⟩ := hs.one_inv; exact ⟨_, _, rfl, hv, hu⟩

theorem run_copy {t e : Nat} {j : TI} (hu : P.underlying t = some (.slice e)) (hj : TIOK P e j) (ty : Nat) (ts : Array Nat) (ht : ts[0]? = some t) (dpa spa : Option Addr) (dn dcap sn scap : Nat) (vs : List Value)
    (hc : (Builtin.firstCells j.size (min sn dn) (.slice spa sn scap)).run P w = .ok vs.toArray w) {w' : World}
    (hs : (match dpa with | some ad => storeCells ad vs | none => pure () : Sem Unit).run P w = .ok () w') :
    (Builtin.copy_ ts ty #[.slice dpa dn dcap, .slice spa sn scap]).run P w = .ok (.int .i64 (min sn dn : Nat)) w' := by
  cases dpa with
  | none =>
    simp at hs
    subst hs
    simp [Builtin.copy_, ht, run_underlying hu, Builtin.lenOf, hj.run_size, hc, goInt, show Nat.min sn dn = min sn dn from rfl]
  | some ad =>
    simp only at hs
    simp [Builtin.copy_, ht, run_underlying hu, Builtin.lenOf, hj.run_size, hc, goInt, hs, show Nat.min sn dn = min sn dn from rfl]

end

end Go.Sim
