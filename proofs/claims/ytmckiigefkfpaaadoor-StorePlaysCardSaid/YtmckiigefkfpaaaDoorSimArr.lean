/- Arrays and slices of structs as rows of cells; conditions that arithmetic settles; inputs that are structs. -/
import Derived.Test.YtmckiigefkfpaaaDoorSimGuard
set_option linter.unusedVariables false
set_option linter.unusedSimpArgs false
namespace Go.Sim
open Go

section
variable {α : Type} {f : α → List AV} {n : Nat}

/-- Things one behind the other, each as its cells. -/
def flat (f : α → List AV) (xs : List α) : List AV := (xs.map f).flatten

theorem flt_nil : flat f [] = [] := rfl
theorem flt_cons (x : α) (xs : List α) : flat f (x :: xs) = f x ++ flat f xs := by simp [flat]
theorem flt_append (xs ys : List α) : flat f (xs ++ ys) = flat f xs ++ flat f ys := by simp [flat]
theorem flt_one (x : α) : flat f [x] = f x := by simp [flat]
theorem flt_len (hf : ∀ x, (f x).length = n) (xs : List α) : (flat f xs).length = xs.length * n := by
  induction xs with
  | nil => simp [flat]
  | cons x xs ih => rw [flt_cons, List.length_append, hf, ih, List.length_cons, Nat.succ_mul]; omega
theorem flt_drop (hf : ∀ x, (f x).length = n) : ∀ (xs : List α) (i : Nat), (flat f xs).drop (i * n) = flat f (xs.drop i)
  | xs, 0 => by simp
  | [], i+1 => by simp [flat]
  | x :: xs, i+1 => by
    rw [flt_cons, List.drop_succ_cons, ← flt_drop hf xs i, Nat.succ_mul, Nat.add_comm, ← List.drop_drop, List.drop_left' (hf x)]
theorem flt_take (hf : ∀ x, (f x).length = n) : ∀ (xs : List α) (i : Nat), (flat f xs).take (i * n) = flat f (xs.take i)
  | xs, 0 => by simp [flat]
  | [], i+1 => by simp [flat]
  | x :: xs, i+1 => by
    rw [flt_cons, List.take_succ_cons, flt_cons, ← flt_take hf xs i, Nat.succ_mul, Nat.add_comm, List.take_append, hf x]
    rw [List.take_of_length_le (by rw [hf x]; omega)]
    congr 2
    omega
theorem flt_rd (hf : ∀ x, (f x).length = n) {xs : List α} {i : Nat} (hi : i < xs.length) : ((flat f xs).drop (i * n)).take n = f xs[i] := by
  rw [flt_drop hf, List.drop_eq_getElem_cons hi, flt_cons, List.take_left' (hf _)]
theorem flt_get (hf : ∀ x, (f x).length = n) {xs : List α} {i k : Nat} (hi : i < xs.length) (hk : k < n) : (flat f xs)[i * n + k]? = (f xs[i])[k]? := by
  have : (flat f xs)[i * n + k]? = ((flat f xs).drop (i * n))[k]? := by rw [List.getElem?_drop]
  rw [this, flt_drop hf, List.drop_eq_getElem_cons hi, flt_cons, List.getElem?_append_left (by rw [hf]; exact hk)]
theorem flt_setk (hf : ∀ x, (f x).length = n) {xs : List α} {i k : Nat} {vs : List AV} {y : α} (hi : i < xs.length) (hk : k + vs.length ≤ n) (hy : setR (f xs[i]) k vs = f y) : setR (flat f xs) (i * n + k) vs = flat f (xs.set i y) := by
  rw [List.set_eq_take_append_cons_drop, if_pos hi, flt_append, flt_cons, ← flt_take hf, ← flt_drop hf, ← hy]
  unfold setR
  have hl := hf xs[i]
  have hx : flat f xs = (flat f xs).take (i * n) ++ (f xs[i] ++ (flat f xs).drop ((i + 1) * n)) := by
    rw [flt_drop hf, ← flt_cons, ← List.drop_eq_getElem_cons hi, ← flt_drop hf, List.take_append_drop]
  have ht : ((flat f xs).take (i * n)).length = i * n := by
    rw [flt_take hf, flt_len hf, List.length_take, Nat.min_eq_left (by omega)]
  generalize (flat f xs).take (i * n) = A at *
  generalize (flat f xs).drop ((i + 1) * n) = B at *
  rw [hx]
  simp only [List.append_assoc]
  rw [List.take_append, List.drop_append, ht]
  rw [List.take_of_length_le (by omega), List.drop_of_length_le (by omega)]
  rw [List.take_append_of_le_length (by omega), List.drop_append_of_le_length (by omega)]
  simp only [List.append_assoc, List.nil_append]
  rw [show i * n + k - i * n = k from by omega, show i * n + k + vs.length - i * n = k + vs.length from by omega]
theorem flt_set (hf : ∀ x, (f x).length = n) {xs : List α} {i : Nat} {y : α} (hi : i < xs.length) : setR (flat f xs) (i * n) (f y) = flat f (xs.set i y) := by
  have := flt_setk hf (vs := f y) (y := y) (k := 0) hi (by rw [hf]; omega) (by unfold setR; rw [hf]; simp [hf])
  simpa using this
theorem flt_plain (hf : ∀ x, (f x).all AV.plain = true) (xs : List α) : (flat f xs).all AV.plain = true := by
  induction xs with
  | nil => rfl
  | cons x xs ih => rw [flt_cons, List.all_append, hf, ih]; rfl
theorem flt_repl (n : Nat) (x : α) (c : List AV) (h : f x = c) : repl n c = flat f (List.replicate n x) := by
  unfold repl flat
  rw [List.map_replicate, h]
end

/-! writing one cell of a row of alike cells -/
theorem setR_map {α : Type} (g : α → AV) {xs : List α} {k : Nat} {v : α} (h : k < xs.length) : setR (xs.map g) k [g v] = (xs.set k v).map g := by
  unfold setR
  rw [List.set_eq_take_append_cons_drop, if_pos h, List.map_append, List.map_cons, List.map_take, List.map_drop]
  simp
theorem setR_int {i : IntKind} {xs : List Int} {k : Nat} {v : Int} (h : k < xs.length) : setR (xs.map (AV.int i)) k [.int i v] = (xs.set k v).map (AV.int i) := setR_map (AV.int i) h
theorem setR_bool {xs : List Bool} {k : Nat} {v : Bool} (h : k < xs.length) : setR (xs.map AV.bool) k [.bool v] = (xs.set k v).map AV.bool := setR_map AV.bool h
theorem setR_zero (cs vs : List AV) : setR cs 0 vs = vs ++ cs.drop vs.length := by simp [setR]
theorem setR_succ (c : AV) (cs vs : List AV) (k : Nat) : setR (c :: cs) (k + 1) vs = c :: setR cs k vs := by
  unfold setR
  rw [show k + 1 + vs.length = (k + vs.length) + 1 from by omega]
  simp
theorem setR_len {cs vs : List AV} {o : Nat} (h : o + vs.length ≤ cs.length) : (setR cs o vs).length = cs.length := by simp [setR]; omega
theorem setR_all {cs vs : List AV} (h : vs.length = cs.length) : setR cs 0 vs = vs := by
  unfold setR; simp [h]
theorem repl_int (n : Nat) (i : IntKind) (x : Int) : repl n [.int i x] = (List.replicate n x).map (AV.int i) := by simp [repl]
theorem repl_bool (n : Nat) (x : Bool) : repl n [.bool x] = (List.replicate n x).map AV.bool := by simp [repl]

/-! conditions that the discharger settles -/
theorem ite_yes {α : Sort _} {c : Prop} {_ : Decidable c} {a b : α} (h : c) : (if c then a else b) = a := if_pos h
theorem ite_no {α : Sort _} {c : Prop} {_ : Decidable c} {a b : α} (h : ¬ c) : (if c then a else b) = b := if_neg h

/-! inputs -/
section
variable {L : Nat → Option TI} {n o t : Nat} {fs : List (Nat × Nat)} {cs : List AV} {sz bt : Nat} {z : List AV}
theorem zip_int {k : IntKind} (hl : L t = some ⟨.int k, sz, bt, z⟩) (h : zipShp (Shp L (n + 1)) ((o, t) :: fs) cs) : ∃ x r, cs = .int k x :: r ∧ (Lit.int k x).wf = true ∧ zipShp (Shp L (n + 1)) fs r := by
  obtain ⟨a, b, rfl, ha, hb⟩ := h
  simp only [Shp, hl] at ha
  obtain ⟨x, rfl, hw⟩ := ha
  exact ⟨x, b, rfl, hw, hb⟩
theorem zip_bool (hl : L t = some ⟨.bool, sz, bt, z⟩) (h : zipShp (Shp L (n + 1)) ((o, t) :: fs) cs) : ∃ x r, cs = .bool x :: r ∧ zipShp (Shp L (n + 1)) fs r := by
  obtain ⟨a, b, rfl, ha, hb⟩ := h
  simp only [Shp, hl] at ha
  obtain ⟨x, rfl⟩ := ha
  exact ⟨x, b, rfl, hb⟩
theorem zip_str (hl : L t = some ⟨.str, sz, bt, z⟩) (h : zipShp (Shp L (n + 1)) ((o, t) :: fs) cs) : ∃ x r, cs = .str x :: r ∧ x.size ≤ maxLen ∧ zipShp (Shp L (n + 1)) fs r := by
  obtain ⟨a, b, rfl, ha, hb⟩ := h
  simp only [Shp, hl] at ha
  obtain ⟨x, rfl, hw⟩ := ha
  exact ⟨x, b, rfl, hw, hb⟩
theorem zip_arr {m e : Nat} (hl : L t = some ⟨.arr m e, sz, bt, z⟩) (h : zipShp (Shp L (n + 1)) ((o, t) :: fs) cs) : ∃ (parts : List (List AV)) (r : List AV), cs = parts.flatten ++ r ∧ parts.length = m ∧ (∀ p ∈ parts, Shp L n e p) ∧ zipShp (Shp L (n + 1)) fs r := by
  obtain ⟨a, b, rfl, ha, hb⟩ := h
  simp only [Shp, hl] at ha
  obtain ⟨parts, rfl, h1, h2⟩ := ha
  exact ⟨parts, b, rfl, h1, h2, hb⟩
theorem zip_slice {e : Nat} {ie : TI} (hl : L t = some ⟨.slice e, sz, bt, z⟩) (he : L e = some ie) (h : zipShp (Shp L (n + 1)) ((o, t) :: fs) cs) : ∃ (parts : List (List AV)) (r : List AV), cs = .isl ie.size parts.length parts.flatten :: r ∧ parts.length ≤ maxLen ∧ (∀ p ∈ parts, Shp L n e p) ∧ zipShp (Shp L (n + 1)) fs r := by
  obtain ⟨a, b, rfl, ha, hb⟩ := h
  simp only [Shp, hl, he] at ha
  obtain ⟨parts, rfl, h1, h2⟩ := ha
  exact ⟨parts, b, rfl, h1, h2, hb⟩
theorem zip_strct {gs : List (Nat × Nat)} (hl : L t = some ⟨.strct gs, sz, bt, z⟩) (h : zipShp (Shp L (n + 1)) ((o, t) :: fs) cs) : ∃ (a r : List AV), cs = a ++ r ∧ zipShp (Shp L n) gs a ∧ zipShp (Shp L (n + 1)) fs r := by
  obtain ⟨a, b, rfl, ha, hb⟩ := h
  simp only [Shp, hl] at ha
  exact ⟨a, b, rfl, ha, hb⟩
theorem zip_nil (h : zipShp (Shp L n) [] cs) : cs = [] := h
theorem shp_strct (hl : L t = some ⟨.strct fs, sz, bt, z⟩) (h : Shp L (n + 1) t cs) : zipShp (Shp L n) fs cs := by
  simpa only [Shp, hl] using h
theorem shp_arr {m e : Nat} (hl : L t = some ⟨.arr m e, sz, bt, z⟩) (h : Shp L (n + 1) t cs) : ∃ parts : List (List AV), cs = parts.flatten ∧ parts.length = m ∧ ∀ p ∈ parts, Shp L n e p := by
  simpa only [Shp, hl] using h
theorem shp_int {k : IntKind} (hl : L t = some ⟨.int k, sz, bt, z⟩) (h : Shp L (n + 1) t cs) : ∃ x, cs = [.int k x] ∧ (Lit.int k x).wf = true := by
  simpa only [Shp, hl] using h
theorem shp_bool (hl : L t = some ⟨.bool, sz, bt, z⟩) (h : Shp L (n + 1) t cs) : ∃ x, cs = [.bool x] := by
  simpa only [Shp, hl] using h
end

/-- Parts that are encoded things. -/
theorem parts_flat {α : Type} {f : α → List AV} {P : α → Prop} {Q : List AV → Prop} (h : ∀ p, Q p → ∃ a, p = f a ∧ P a) : ∀ parts : List (List AV), (∀ p ∈ parts, Q p) → ∃ as : List α, parts.flatten = flat f as ∧ as.length = parts.length ∧ ∀ a ∈ as, P a
  | [], _ => ⟨[], rfl, rfl, by simp⟩
  | p :: ps, hp => by
    obtain ⟨as, h1, h2, h3⟩ := parts_flat h ps fun q hq => hp q (by simp [hq])
    obtain ⟨a, rfl, ha⟩ := h p (hp p (by simp))
    exact ⟨a :: as, by simp [flt_cons, h1], by simp [h2], by simpa using ⟨ha, h3⟩⟩

/-! inputs by the kinds of their fields -/
section
variable {L : Nat → Option TI} {n : Nat} {fs : List (Nat × Nat)} {cs : List AV} {ds : List (Option TD)}
def dsc (L : Nat → Option TI) (p : Nat × Nat) : Option TD := (L p.2).map TI.desc
theorem zipd_int {k : IntKind} (h : zipShp (Shp L (n + 1)) fs cs) (hs : fs.map (dsc L) = some (.int k) :: ds) : ∃ x gs r, cs = .int k x :: r ∧ (Lit.int k x).wf = true ∧ zipShp (Shp L (n + 1)) gs r ∧ gs.map (dsc L) = ds := by
  cases fs with
  | nil => cases hs
  | cons p gs =>
    obtain ⟨a, b, rfl, ha, hb⟩ := h
    simp only [List.map_cons, List.cons.injEq, dsc, Option.map_eq_some_iff] at hs
    obtain ⟨⟨i, hi, hd⟩, hr⟩ := hs
    simp only [Shp, hi, hd] at ha
    obtain ⟨x, rfl, hw⟩ := ha
    exact ⟨x, gs, b, rfl, hw, hb, hr⟩
theorem zipd_bool (h : zipShp (Shp L (n + 1)) fs cs) (hs : fs.map (dsc L) = some .bool :: ds) : ∃ x gs r, cs = .bool x :: r ∧ zipShp (Shp L (n + 1)) gs r ∧ gs.map (dsc L) = ds := by
  cases fs with
  | nil => cases hs
  | cons p gs =>
    obtain ⟨a, b, rfl, ha, hb⟩ := h
    simp only [List.map_cons, List.cons.injEq, dsc, Option.map_eq_some_iff] at hs
    obtain ⟨⟨i, hi, hd⟩, hr⟩ := hs
    simp only [Shp, hi, hd] at ha
    obtain ⟨x, rfl⟩ := ha
    exact ⟨x, gs, b, rfl, hb, hr⟩
theorem zipd_str (h : zipShp (Shp L (n + 1)) fs cs) (hs : fs.map (dsc L) = some .str :: ds) : ∃ x gs r, cs = .str x :: r ∧ x.size ≤ maxLen ∧ zipShp (Shp L (n + 1)) gs r ∧ gs.map (dsc L) = ds := by
  cases fs with
  | nil => cases hs
  | cons p gs =>
    obtain ⟨a, b, rfl, ha, hb⟩ := h
    simp only [List.map_cons, List.cons.injEq, dsc, Option.map_eq_some_iff] at hs
    obtain ⟨⟨i, hi, hd⟩, hr⟩ := hs
    simp only [Shp, hi, hd] at ha
    obtain ⟨x, rfl, hw⟩ := ha
    exact ⟨x, gs, b, rfl, hw, hb, hr⟩
theorem zipd_nil (h : zipShp (Shp L n) fs cs) (hs : fs.map (dsc L) = []) : cs = [] := by
  cases fs with
  | nil => exact h
  | cons p gs => cases hs
end

/-! rows that are filled from the front -/
section
variable {α : Type}
/-- A row of n: the first k are f's, the others d. -/
def fillup (f : Nat → α) (d : α) (n k : Nat) : List α := (List.range n).map fun j => if j < k then f j else d
theorem fillup_len (f : Nat → α) (d : α) (n k : Nat) : (fillup f d n k).length = n := by simp [fillup]
theorem fillup_zero (f : Nat → α) (d : α) (n : Nat) : fillup f d n 0 = List.replicate n d := by
  apply List.ext_getElem <;> simp [fillup]
theorem fillup_full (f : Nat → α) (d : α) (n : Nat) : fillup f d n n = (List.range n).map f := by
  apply List.ext_getElem
  · simp [fillup]
  · intro i h1 h2
    simp [fillup] at h1 ⊢
    intro h; omega
theorem fillup_set (f : Nat → α) (d : α) (n k : Nat) : (fillup f d n k).set k (f k) = fillup f d n (k + 1) := by
  apply List.ext_getElem
  · simp [fillup]
  · intro i h1 h2
    rw [List.getElem_set]
    by_cases e : k = i
    · subst e; simp [fillup]
    · simp only [e, if_false, fillup, List.getElem_map, List.getElem_range]
      by_cases h : i < k
      · rw [if_pos h, if_pos (by omega)]
      · rw [if_neg h, if_neg (by omega)]
theorem fillup_set' {f : Nat → α} {d : α} {n k : Nat} {v : α} (h : v = f k) : (fillup f d n k).set k v = fillup f d n (k + 1) := by rw [h, fillup_set]
theorem fillup_get (f : Nat → α) (d : α) (n k j : Nat) (h : j < (fillup f d n k).length) : (fillup f d n k)[j] = if j < k then f j else d := by simp [fillup]
end

/-! operations, one by one: no side condition -/
section
variable {F : Fx} {ks : List Fr} {st : St} {ops l : List Oper} {d : Option Nat} {op : Op} {ty : Nat} {pos : String} {after : Array Edge} {want : Bool}
theorem goOps_consU : goOps F ops (⟨d, op, ty, pos, after, none⟩ :: l) ks st = if d.getD 0 < F.K.nt then stepK F ops l ks d (denOp F.L F.K F.Γ st (d.getD 0) ty op) else none := by
  split
  · rename_i h; exact goOps_cons h
  · rename_i h; simp only [goOps, denOps, denOper, if_neg h]; rfl
theorem goOps_guardU {j : Nat} : goOps F ops (⟨d, op, ty, pos, after, some (j, want)⟩ :: l) ks st = if d.getD 0 < F.K.nt then guardR F ops l ks d op ty want st ((ops[j]?).bind (·.dst)) else none := by
  split
  · rename_i h; exact goOps_guardR h
  · rename_i h; simp only [goOps, denOps, denOper, if_neg h]; rfl
end

end Go.Sim
