/- The interpreter's operations are the model's: part 4: slices of slices, literals, builtins. -/
import Derived.Test.YtmckiigefkfpaaaDoorSimPure
set_option linter.unusedVariables false
set_option linter.unusedSimpArgs false
namespace Go.Sim
open Go

/-! ## rows of zeros, parts laid over cells -/

theorem range_repl {α : Type} [Inhabited α] (z : Array α) (n : Nat) : ((Array.range (n * z.size)).map fun i => z[i % z.size]!).toList = (List.replicate n z.toList).flatten := by
  rw [Array.toList_map, Array.toList_range]
  induction n with
  | zero => simp
  | succ n ih =>
    rw [Nat.succ_mul, List.range_add, List.map_append, ih, List.replicate_succ', List.flatten_append]
    congr 1
    simp only [List.map_map, List.flatten_cons, List.flatten_nil, List.append_nil]
    apply List.ext_getElem
    · simp
    · intro i h1 h2
      simp only [List.length_map, List.length_range] at h1
      have : (n * z.size + i) % z.size = i := by rw [Nat.mul_comm, Nat.mul_add_mod, Nat.mod_eq_of_lt h1]
      simp [this, getElem!_pos z i h1]

theorem foldl_splice (off : Nat) : ∀ (l : List Value) (k : Nat) (cs : Array Value), off + k + l.length ≤ cs.size →
    (l.zipIdx k).foldl (fun cs (x : Value × Nat) => cs.setIfInBounds (off + x.2) x.1) cs = splice cs (off + k) l
  | [], k, cs, h => by
    have : splice cs (off + k) [] = cs := by apply Array.ext'; simp [splice]
    simp [this]
  | v :: l, k, cs, h => by
    simp only [List.length_cons] at h
    simp only [List.zipIdx_cons, List.foldl_cons]
    rw [foldl_splice off l (k + 1) _ (by simp; omega)]
    apply Array.ext_getElem?
    intro j
    rw [splice_get _ _ _ (by simp; omega), splice_get _ _ _ (by simp; omega), Array.getElem?_setIfInBounds]
    by_cases e1 : j = off + k
    · rw [if_neg (by omega), if_pos e1.symm, if_pos (by omega), if_pos (by simp; omega), show j - (off + k) = 0 from by omega]
      rfl
    · by_cases e2 : off + k ≤ j ∧ j < off + k + (v :: l).length
      · simp only [List.length_cons] at e2
        rw [if_pos (by omega), if_pos (by simp; omega)]
        obtain ⟨i, rfl⟩ : ∃ i, j = off + k + 1 + i := ⟨j - (off + k + 1), by omega⟩
        rw [show off + k + 1 + i - (off + k) = i + 1 from by omega, show off + k + 1 + i - (off + (k + 1)) = i from by omega]
        simp
      · rw [if_neg e2]
        simp only [List.length_cons] at e2
        rw [if_neg (by omega), if_neg (by omega)]

section
variable {P : Program} {s : S} {w : World}

/-- Parts, as the interpreter has them and as they are. -/
inductive PQs (s : S) : List (Nat × AV) → List (Nat × Value) → Prop
  | nil : PQs s [] []
  | cons {i : Nat} {c : AV} {x : Value} {ps : List (Nat × AV)} {qs : List (Nat × Value)} (h : VR s c x) (hs : PQs s ps qs) : PQs s ((i, c) :: ps) ((i, x) :: qs)

theorem ok_fill {place placeA : Nat → Option (Nat × Nat)} : ∀ (ps : List (Nat × AV)) (qs : List (Nat × Value)) (cells cells' : List AV) (vs : List Value),
    PQs s ps qs → (∀ p ∈ ps, ∀ r, placeA p.1 = some r → place p.1 = some r) → VRs s true cells vs → fillA placeA cells ps = some cells' →
    ∃ vs', Instr.fill place vs.toArray qs = some vs'.toArray ∧ VRs s true cells' vs'
  | [], _, cells, cells', vs, .nil, _, hv, h => by
    simp only [fillA, Option.some.injEq] at h
    subst h
    exact ⟨vs, rfl, hv⟩
  | (i, c) :: ps, (_, x) :: qs, cells, cells', vs, .cons hc hrest, hpl, hv, h => by
    unfold fillA at h
    cases hp : placeA i with
    | none => simp [hp] at h
    | some r =>
      obtain ⟨off, size⟩ := r
      simp only [hp] at h
      split at h
      · rename_i hcnd
        obtain ⟨h1, h2, h3⟩ := hcnd
        have hd := hc.cells h1
        have hl := hv.length
        have hdl := hd.length
        have hsz : x.cells.size = size := by simp at hdl; omega
        obtain ⟨vs', g1, g2⟩ := ok_fill ps qs (setR cells off c.cells) cells' (vs.take off ++ x.cells.toList ++ vs.drop (off + x.cells.toList.length)) hrest (fun p hp' => hpl p (by simp [hp'])) (hv.setR hd off) h
        refine ⟨vs', ?_, g2⟩
        unfold Instr.fill
        rw [hpl (i, c) (by simp) _ hp]
        simp only
        rw [if_neg (by simp; omega)]
        have hf := foldl_splice off x.cells.toList 0 vs.toArray (by simp; omega)
        simp only [Nat.add_zero] at hf
        rw [← Array.foldl_toList, Array.toList_zipIdx]
        have : (List.foldl (fun cs (x : Value × Nat) => match x with | (c, j) => cs.setIfInBounds (off + j) c) vs.toArray (x.cells.toList.zipIdx)) = splice vs.toArray off x.cells.toList := hf
        rw [this]
        exact g1
      · cases h

/-! ## a slice of a slice -/

theorem run_slice_sl {t e : Nat} {j : TI} (hu : P.underlying t = some (.slice e)) (hj : TIOK P e j) {pa : Option Addr} {len cap l h : Nat} {xl xh : Option Value}
    (hb : (Instr.sliceBounds true len cap xl xh none).run P w = .ok (l, h, cap) w) :
    (Instr.sliceAt t (.slice pa len cap) xl xh none).run P w = .ok (.slice (if cap = l then pa else pa.map (·.add (l * j.size))) (h - l) (cap - l)) w := by
  simp [Instr.sliceAt, Instr.slice, run_underlying hu, hb, hj.run_size]

theorem run_slice_arr {t n e : Nat} {j : TI} (hu : P.underlying t = some (.array n e)) (hj : TIOK P e j) {ad : Addr} {l h : Nat} {xl xh : Option Value}
    (hb : (Instr.sliceBounds false n n xl xh none).run P w = .ok (l, h, n) w) :
    (Instr.sliceAt t (.pointer (some ad)) xl xh none).run P w = .ok (.slice (if n = l then some ad else (some ad).map (·.add (l * j.size))) (h - l) (n - l)) w := by
  simp only [Instr.sliceAt, Sem.run_bind, run_underlying hu, Result.andThen_ok, Instr.sureAddr, Sem.run_pure, hb, hj.run_size]
  by_cases e : n = l <;> simp [e]

theorem ok_cut_isl {z n len cap l h : Nat} {cells : List AV} {pa : Option Addr}
    (hx : (∃ ad cap', ∃ vs, Value.slice pa len cap = .slice (some ad) n cap' ∧ ad.spot = none ∧ cells.length = n * z ∧ Reads s ad vs ∧ VRs s true cells vs) ∨ (∃ ad cap', Value.slice pa len cap = .slice ad 0 cap' ∧ n = 0 ∧ cells = []))
    (hlc : len ≤ cap) (h1 : l ≤ h) (h2 : h ≤ len) : VR s (.isl z (h - l) ((cells.drop (l * z)).take ((h - l) * z))) (.slice (if cap = l then pa else pa.map (·.add (l * z))) (h - l) (cap - l)) := by
  rcases hx with ⟨ad, cap', vs, e, hs, hlen, hr, hv⟩ | ⟨ad, cap', e, rfl, rfl⟩
  · cases e
    by_cases hcl : cap = l
    · have : h - l = 0 := by omega
      rw [this]
      simp only [Nat.zero_mul, List.take_zero]
      exact .islnil
    · rw [if_neg hcl, Option.map_some, addr_add' hs]
      have m1 : l * z + (h - l) * z ≤ n * z := by rw [← Nat.add_mul]; exact Nat.mul_le_mul_right _ (by omega)
      refine .isl (vs := (vs.drop (l * z)).take ((h - l) * z)) rfl (by omega) (by simp; omega) (fun k v hk => ?_) ((hv.drop _).take _)
      rw [List.getElem?_take] at hk
      split at hk
      · exact hr.drop (l * z) k v hk
      · cases hk
  · cases e
    have : h - l = 0 := by omega
    rw [this]
    simp only [Nat.zero_mul, List.take_zero]
    exact .islnil

/-- The cut value: of a block of one's own, of what is read. -/
theorem ok_cut {v : AV} {sz len cap l h : Nat} {pa : Option Addr} : ∀ {av : AV} (hx : VR s av (.slice pa len cap)) (hlc : len ≤ cap) (h1 : l ≤ h) (h2 : h ≤ len) (ha : cutA sz l h av = some v),
    VR s v (.slice (if cap = l then pa else pa.map (·.add (l * sz))) (h - l) (cap - l))
  | .msl k g z o n, hx, hlc, h1, h2, ha => by
    simp only [cutA] at ha
    split at ha
    · rename_i hz
      subst hz
      simp only [Option.some.injEq] at ha
      subst ha
      cases hx with
      | msl hok hv hl =>
        obtain ⟨rfl, _⟩ := hv
        refine .msl hok ⟨rfl, by omega⟩ fun blk hb hs => ?_
        obtain ⟨g1, g2⟩ := hl blk hb hs
        have m1 : l * z + (h - l) * z ≤ len * z := by rw [← Nat.add_mul]; exact Nat.mul_le_mul_right _ (by omega)
        refine ⟨by omega, ?_⟩
        rcases g2 with ⟨cap', hvv, c1, c2⟩ | ⟨c1, ad, hvv⟩
        · cases hvv
          by_cases hcl : cap = l
          · refine .inr ⟨by omega, some ⟨(s.m.base k).1, (s.m.base k).2 + o, none⟩, ?_⟩
            rw [if_pos hcl, show h - l = 0 by omega, show cap - l = 0 by omega]
          · have m2 : l * z + (cap - l) * z = cap * z := by rw [← Nat.add_mul]; congr 1; omega
            refine .inl ⟨cap - l, ?_, by omega, by omega⟩
            rw [if_neg hcl]
            simp [addr_add, Nat.add_assoc]
        · cases hvv
          refine .inr ⟨by omega, pa, ?_⟩
          rw [if_pos (by omega), show h - l = 0 by omega, show 0 - l = 0 by omega]
    · cases ha
  | .isl z n cells, hx, hlc, h1, h2, ha => by
    simp only [cutA] at ha
    split at ha
    · rename_i hz
      obtain ⟨rfl, hlen⟩ := hz
      simp only [Option.some.injEq] at ha
      subst ha
      exact ok_cut_isl (VR.isl_inv (.inl hx)) hlc h1 h2
    · cases ha
  | .fsl z n cells, hx, hlc, h1, h2, ha => by
    simp only [cutA] at ha
    split at ha
    · rename_i hz
      obtain ⟨rfl, hlen⟩ := hz
      simp only [Option.some.injEq] at ha
      subst ha
      exact ok_cut_isl (VR.isl_inv (.inr hx)) hlc h1 h2
    · cases ha
  | .nsl, hx, hlc, h1, h2, ha => by
    simp only [cutA, Option.some.injEq] at ha
    subst ha
    cases hx
    have : l = 0 := by omega
    subst this
    have : h = 0 := by omega
    subst this
    simpa using VR.nsl
  | .junk, _, _, _, _, ha | .bool _, _, _, _, _, ha | .int _ _, _, _, _, _, ha | .str _, _, _, _, _, ha | .nilp, _, _, _, _, ha | .ref _ _ _, _, _, _, _, ha
  | .ipt _, _, _, _, _, ha | .agg _, _, _, _, _, ha | .tup _, _, _, _, _, ha | .nilI, _, _, _, _, ha | .nilF, _, _, _, _, ha | .fn _ _, _, _, _, _, ha => by simp [cutA] at ha

theorem slLen_ok {av : AV} {n : Nat} {x : Value} (hx : VR s av x) (h : slLen av = some n) : (∃ b, av = .str b ∧ x = .string b ∧ n = b.size) ∨ ∃ pa cap, x = .slice pa n cap ∧ n ≤ cap := by
  cases av <;> simp only [slLen, Option.some.injEq] at h <;> first | (cases h; done) | skip
  case str b => subst h; exact .inl ⟨b, rfl, hx.str_inv, rfl⟩
  case nsl => subst h; cases hx; exact .inr ⟨_, 0, rfl, Nat.le_refl _⟩
  case msl =>
    subst h
    cases hx with
    | msl hok hv hl =>
      cases x <;> first | (simp only [isSlice] at hv; done) | skip
      all_goals first | exact hv.elim | exact .inr ⟨_, _, by rw [hv.1], hv.2⟩
  case isl z m c =>
    subst h
    cases hx
    · rename_i h1 h2 h3 h4; exact .inr ⟨_, _, rfl, by assumption⟩
    · exact .inr ⟨_, _, rfl, Nat.zero_le _⟩
  case fsl z m c =>
    subst h
    cases hx
    · rename_i h1 h2 h3 h4; exact .inr ⟨_, _, rfl, by assumption⟩
    · exact .inr ⟨_, _, rfl, Nat.zero_le _⟩

end

end Go.Sim
