/- The interpreter's operations are the model's: part 1: types, loads, stores, new blocks. -/
import Derived.Test.YtmckiigefkfpaaaDoorSimRel
set_option linter.unusedVariables false
set_option linter.unusedSimpArgs false
namespace Go.Sim
open Go

/-! ## types -/

def TDOK (P : Program) : TD → TypeDesc → Prop
  | .bool, .bool => True
  | .int k, .int k' => k = k'
  | .str, .string => True
  | .ptr e, .pointer e' => e = e'
  | .slice e, .slice e' => e = e'
  | .arr n e, .array n' e' => n = n' ∧ e = e'
  | .strct fs, .struct fs' => fs'.toList.map (fun f => (f.offset, f.type)) = fs ∧ fs'.toList.all (fun f => (P.info? f.type).isSome) = true
  | .func, .func _ _ _ => True
  | .map k e, .map k' e' => k = k' ∧ e = e'
  | .iface, .interface _ => True
  | .opq, .struct _ => True
  | .other, .interface _ => True
  | .other, .map _ _ => True
  | .other, .tuple _ => True
  | _, _ => False

/-- Structs and arrays that are compared part by part. -/
def eqOkB (P : Program) (t : Nat) : TypeDesc → Bool
  | .struct fs => fs.toList.all (fun f => f.name != "_") && (!P.stoodInHeld t && !P.eqGuardType P.depth t)
  | .array _ _ => !P.eqGuardType P.depth t
  | _ => true

/-- Structs that are never compared are let by. -/
def eqOkD (P : Program) (t : Nat) : TD → TypeDesc → Bool
  | .opq, _ => true
  | _, d => eqOkB P t d

def isAggV : Value → Bool
  | .agg _ => true
  | _ => false

/-- The table of types is the program's. -/
def TIOK (P : Program) (t : Nat) (i : TI) : Prop :=
  ∃ info d z, P.info? t = some info ∧ P.underlying t = some d ∧ TDOK P i.desc d ∧ info.size = i.size ∧ info.bytes = i.bytes ∧ info.zero = some z ∧ ofCells z.cells.toList = some i.zero ∧ eqOkD P t i.desc d = true ∧ i.isAgg = isAggV z

def LOK (P : Program) (L : Nat → Option TI) : Prop := ∀ t i, L t = some i → TIOK P t i

section
variable {P : Program} {t : Nat} {i : TI}

theorem TIOK.run_info (h : TIOK P t i) : ∃ info z, info.size = i.size ∧ info.bytes = i.bytes ∧ info.zero = some z ∧ ofCells z.cells.toList = some i.zero ∧ ∀ w, (typeInfo t).run P w = .ok info w := by
  obtain ⟨info, d, z, h1, h2, h3, h4, h5, h6, h7, h8⟩ := h
  exact ⟨info, z, h4, h5, h6, h7, fun w => by simp [typeInfo, h1]⟩

theorem TIOK.run_size (h : TIOK P t i) (w : World) : (sizeOf t).run P w = .ok i.size w := by
  obtain ⟨info, z, h1, _, _, _, h2⟩ := h.run_info
  simp [sizeOf, h2, h1]

theorem TIOK.run_zeroAV (h : TIOK P t i) (s : S) : ∃ z, VR s i.zeroAV z ∧ ∀ w, (zeroValue t).run P w = .ok z w := by
  obtain ⟨info, d, z, h1, h2, h3, h4, h5, h6, h7, h8, h9⟩ := h
  refine ⟨z, ?_, fun w => by simp [zeroValue, typeInfo, h1, h6]⟩
  have hv := ofCells_ok s _ _ h7
  unfold TI.zeroAV
  rw [h9]
  cases z <;> simp only [isAggV, Value.cells, Bool.false_eq_true, if_false, if_true] at * <;> first
    | (rename_i cs; exact .agg (vs := cs.toList) hv)
    | (cases hz : i.zero with
       | nil => exact .junk _
       | cons c l => rw [hz] at hv; cases hv with | cons _ h _ => exact h)
theorem TIOK.run_zero (h : TIOK P t i) : ∃ z, ofCells z.cells.toList = some i.zero ∧ ∀ w, (zeroValue t).run P w = .ok z w := by
  obtain ⟨info, z, _, _, h1, h2, h3⟩ := h.run_info
  exact ⟨z, h2, fun w => by simp [zeroValue, h3, h1]⟩

theorem TIOK.run_und (h : TIOK P t i) : ∃ d, TDOK P i.desc d ∧ P.underlying t = some d ∧ ∀ w, (underlying t).run P w = .ok d w := by
  obtain ⟨info, d, z, h1, h2, h3, _⟩ := h
  exact ⟨d, h3, h2, fun w => run_underlying h2 w⟩

theorem TIOK.run_agg (h : TIOK P t i) (w : World) : (isAgg t).run P w = .ok i.isAgg w := by
  obtain ⟨d, h1, _, h2⟩ := h.run_und
  simp only [isAgg, Sem.run_bind, h2, Result.andThen_ok, TI.isAgg]
  cases hd : i.desc <;> rw [hd] at h1 <;> cases d <;> simp_all [TDOK]
end

theorem addr_add (b o j : Nat) : (⟨b, o, none⟩ : Addr).add j = ⟨b, o + j, none⟩ := by
  unfold Addr.add
  split
  · rename_i h; subst h; rfl
  · rfl

theorem addr_add' {a : Addr} (h : a.spot = none) (j : Nat) : a.add j = ⟨a.block, a.off + j, none⟩ := by
  obtain ⟨b, o, s⟩ := a
  simp only at h
  subst h
  exact addr_add b o j

theorem addr_eta {a : Addr} (h : a.spot = none) : a = ⟨a.block, a.off, none⟩ := by
  obtain ⟨b, o, s⟩ := a
  simp only at h
  subst h
  rfl

/-- Reading a variable whose cells are known. -/
theorem run_rd {P : Program} {t : Nat} {i : TI} (hi : TIOK P t i) {s : S} {cells : List AV} {vs : List Value} {o : Nat} {v : AV} (hv : VRs s true cells vs) (hr : rdCells i cells o = some v)
    (b k : Nat) (w : World) (hc : ∀ j u, vs[j]? = some u → w.cell? ⟨b, k + j, none⟩ = some u) :
    ∃ x, (loadVar t ⟨b, k + o, none⟩).run P w = .ok x w ∧ VR s v x := by
  unfold rdCells at hr
  simp only [loadVar, Sem.run_bind, hi.run_agg, Result.andThen_ok]
  split at hr
  · rename_i ha
    split at hr
    · rename_i hle
      simp only [Option.some.injEq] at hr
      subst hr
      refine ⟨.agg ((vs.drop o).take i.size).toArray, ?_, .agg ((hv.drop o).take i.size)⟩
      rw [if_pos ha]
      simp only [Sem.run_bind, hi.run_size, Result.andThen_ok]
      have hlen : ((vs.drop o).take i.size).length = i.size := by have := hv.length; simp; omega
      have := run_loadCells_list (P := P) w ⟨b, k + o, none⟩ ((vs.drop o).take i.size) (fun j u hj => by
        rw [addr_add, Nat.add_assoc]
        refine hc _ _ ?_
        rw [List.getElem?_take] at hj
        split at hj
        · simpa [List.getElem?_drop] using hj
        · cases hj)
      rw [hlen] at this
      simp [this]
    · cases hr
  · rename_i ha
    obtain ⟨x, h1, h2, _⟩ := hv.get hr
    refine ⟨x, ?_, h2⟩
    rw [if_neg ha]
    simp [hc o x h1]

/-- Part of a struct's, an array's cells. -/
theorem run_part {P : Program} {t : Nat} {i : TI} (hi : TIOK P t i) {s : S} {cells : List AV} {vs : List Value} {o : Nat} {v : AV} (hv : VRs s true cells vs) (hr : rdCells i cells o = some v) (w : World) :
    ∃ x, (part t vs.toArray o).run P w = .ok x w ∧ VR s v x := by
  unfold rdCells at hr
  simp only [part, Sem.run_bind, hi.run_agg, Result.andThen_ok]
  split at hr
  · rename_i ha
    split at hr
    · rename_i hle
      simp only [Option.some.injEq] at hr
      subst hr
      refine ⟨.agg ((vs.drop o).take i.size).toArray, ?_, .agg ((hv.drop o).take i.size)⟩
      rw [if_pos ha]
      simp only [Sem.run_bind, hi.run_size, Result.andThen_ok, Sem.run_pure]
      congr 2
      apply Array.ext'
      simp [List.drop_take]
    · cases hr
  · rename_i ha
    obtain ⟨x, h1, h2, _⟩ := hv.get hr
    refine ⟨x, ?_, h2⟩
    rw [if_neg ha]
    simp [h1]

/-! ## storing cells -/

def splice (c : Array Value) (o : Nat) (vs : List Value) : Array Value := (c.toList.take o ++ vs ++ c.toList.drop (o + vs.length)).toArray

theorem size_splice (c : Array Value) (o : Nat) (vs : List Value) (h : o + vs.length ≤ c.size) : (splice c o vs).size = c.size := by
  simp [splice]; omega

theorem splice_get (c : Array Value) (o : Nat) (vs : List Value) (h : o + vs.length ≤ c.size) (k : Nat) :
    (splice c o vs)[k]? = if o ≤ k ∧ k < o + vs.length then vs[k - o]? else c[k]? := by
  simp only [splice, List.getElem?_toArray]
  have ho : o ≤ c.toList.length := by simp; omega
  by_cases h1 : k < o
  · rw [if_neg (by omega), List.append_assoc, List.getElem?_append_left (by simp; omega), List.getElem?_take, if_pos h1]; simp
  · by_cases h2 : k < o + vs.length
    · rw [if_pos ⟨by omega, h2⟩, List.append_assoc, List.getElem?_append_right (by simp; omega), List.getElem?_append_left (by simp; omega)]
      simp [Nat.min_eq_left (by simpa using ho)]
    · rw [if_neg (by omega), List.getElem?_append_right (by simp; omega)]
      simp only [List.length_append, List.length_take, Nat.min_eq_left ho, List.getElem?_drop, Array.getElem?_toList]
      congr 1; omega

theorem setCell_row (w : World) (b k : Nat) (c : Array Value) (e : TypeId) (fr : Nat × Nat) (v : Value) (hb : w.heap[b]? = some (.cells c e fr)) :
    w.setCell ⟨b, k, none⟩ v = w.putRow b (c.setIfInBounds k v) e fr := by
  obtain ⟨hlt, hg⟩ := Array.getElem?_eq_some_iff.1 hb
  simp only [World.setCell, World.putRow]
  congr 1
  apply Array.ext_getElem?
  intro j
  rw [Array.getElem?_modify, Array.getElem?_setIfInBounds]
  by_cases h : b = j
  · subst h; simp [hlt, hg]
  · simp [h]

theorem putRow_putRow (w : World) (b : Nat) (c c' : Array Value) (e : TypeId) (fr : Nat × Nat) : (w.putRow b c e fr).putRow b c' e fr = w.putRow b c' e fr := by
  simp [World.putRow]

theorem putRow_self (w : World) (b : Nat) (c : Array Value) (e : TypeId) (fr : Nat × Nat) (hb : w.heap[b]? = some (.cells c e fr)) : w.putRow b c e fr = w := by
  obtain ⟨hlt, hg⟩ := Array.getElem?_eq_some_iff.1 hb
  have : w.heap.setIfInBounds b (.cells c e fr) = w.heap := by
    apply Array.ext_getElem?
    intro j
    rw [Array.getElem?_setIfInBounds]
    by_cases h : b = j
    · subst h; simp [hlt, hg]
    · simp [h]
  simp [World.putRow, this]

theorem run_store_row {P : Program} (b o : Nat) (e : TypeId) (fr : Nat × Nat) : ∀ (vs : List Value) (i : Nat) (c : Array Value) (w : World),
    w.heap[b]? = some (.cells c e fr) → o + i + vs.length ≤ c.size → (∀ k, o + i ≤ k → k < o + i + vs.length → ¬ (fr.1 ≤ k ∧ k < fr.2)) → (∀ v ∈ vs, v.oneCell' = true) →
    (storeCells ⟨b, o, none⟩ vs i).run P w = .ok () (w.putRow b (splice c (o + i) vs) e fr)
  | [], i, c, w, hb, hle, hf, h1 => by
    have : splice c (o + i) [] = c := by
      apply Array.ext'
      simp [splice]
    rw [this, putRow_self w b c e fr hb]
    simp [storeCells]
  | v :: vs, i, c, w, hb, hle, hf, h1 => by
    simp only [List.length_cons] at hle hf
    have hcell : w.cell? ⟨b, o + i, none⟩ = some c[o + i] := by
      rw [block_cell hb]; exact Array.getElem?_eq_getElem (by omega)
    have hfz : w.frozen? ⟨b, o + i, none⟩ = false := by
      have := hf (o + i) (by omega) (by omega)
      simp only [World.frozen?, hb]
      obtain ⟨lo, hi⟩ := fr
      simp only at this ⊢
      simp
      omega
    have hlt : b < w.heap.size := (Array.getElem?_eq_some_iff.1 hb).1
    rw [storeCells]
    simp only [Sem.run_bind, addr_add]
    rw [run_store P w _ v .plain (h1 v (by simp)), hcell]
    simp only [hfz, Bool.false_eq_true, if_false, Result.andThen_ok]
    rw [setCell_row w b (o + i) c e fr v hb]
    have hb' : (w.putRow b (c.setIfInBounds (o + i) v) e fr).heap[b]? = some (.cells (c.setIfInBounds (o + i) v) e fr) := by rw [heap_putRow]; simp [hlt]
    rw [run_store_row b o e fr vs (i + 1) _ _ hb' (by simp; omega) (fun k k1 k2 => hf k (by omega) (by omega)) (fun u hu => h1 u (by simp [hu])), putRow_putRow]
    congr 2
    apply Array.ext_getElem?
    intro k
    rw [splice_get _ _ _ (by simp; omega), splice_get _ _ _ (by simp; omega), Array.getElem?_setIfInBounds]
    by_cases e1 : k = o + i
    · rw [if_neg (by omega), if_pos e1.symm, if_pos (by omega), if_pos (by simp; omega), show k - (o + i) = 0 from by omega]
      rfl
    · by_cases e2 : o + i ≤ k ∧ k < o + i + (v :: vs).length
      · simp only [List.length_cons] at e2
        rw [if_pos (by omega), if_pos (by simp; omega)]
        obtain ⟨j, rfl⟩ : ∃ j, k = o + i + 1 + j := ⟨k - (o + i + 1), by omega⟩
        rw [show o + i + 1 + j - (o + i) = j + 1 from by omega, show o + i + 1 + j - (o + (i + 1)) = j from by omega]
        simp
      · rw [if_neg e2]
        simp only [List.length_cons] at e2
        rw [if_neg (by omega), if_neg (by omega)]

/-! ## loads and stores -/

theorem blkOf_some {st : St} {k : Nat} {σ : Nat × Nat} {cells : List AV} (h : blkOf st k σ = some cells) : ∃ blk, aget k st.heap = some blk ∧ blk.stamp = σ ∧ blk.cells = cells := by
  unfold blkOf at h
  split at h
  · cases h
  split at h
  · rename_i b hb
    split at h
    · rename_i hs; exact ⟨b, hb, hs, by simpa using h⟩
    · cases h
  · cases h

theorem blkOf_key {st : St} {k : Nat} {σ : Nat × Nat} {cells : List AV} (h : blkOf st k σ = some cells) : isMapKey k = false := by
  unfold blkOf at h
  split at h
  · cases h
  · rename_i hk; simpa using hk

theorem key_slot {d : Nat} (h : d < 500000) : isMapKey d = false := by
  unfold isMapKey
  rw [Nat.mod_eq_of_lt (by omega)]
  cases hb : Nat.ble 500000 d with
  | false => rfl
  | true => have := Nat.le_of_ble_eq_true hb; omega

theorem cellsI {c : Cx} {s : S} {k : Nat} {b : Blk} (hk : isMapKey k = false) (h : CellsOK c s k b) : if isMapKey k then MapOK c s k b else CellsOK c s k b := by
  rw [hk]; exact h

theorem mapOf_some {st : St} {k : Nat} {σ : Nat × Nat} {ks vs : List AV} (h : mapOf st k σ = some (ks, vs)) : ∃ blk, aget k st.heap = some blk ∧ blk.stamp = σ ∧ blk.cells = [.mapd ks vs] ∧ isMapKey k = true := by
  unfold mapOf at h
  split at h
  · rename_i hk
    split at h
    · rename_i b hb
      split at h
      · rename_i hs
        split at h
        · rename_i ks' vs' hc
          simp only [Option.some.injEq, Prod.mk.injEq] at h
          obtain ⟨rfl, rfl⟩ := h
          exact ⟨b, hb, hs, hc, hk⟩
        · cases h
      · cases h
    · cases h
  · cases h

section
variable {P : Program} {c : Cx} {nt : Nat} {st : St} {a : Act} {w : World} {m : Mp}

theorem RelM.blkAt (h : RelM c nt st a w m) {k : Nat} {blk : Blk} (hb : aget k st.heap = some blk) (hk : isMapKey k = false := by first | assumption | (apply blkOf_key; assumption)) : (blk.cells = [] ∧ m.ext k = 0) ∨
    ∃ (cs : Array Value) (e : TypeId) (fr : Nat × Nat), w.heap[(m.base k).1]? = some (.cells cs e fr) ∧ (m.base k).2 + m.ext k ≤ cs.size ∧ blk.cells.length ≤ m.ext k ∧
    (c.np ≤ k → k < 1000000 → c.w0.heap.size ≤ (m.base k).1) ∧
    (∀ o, (m.base k).2 ≤ o → o < (m.base k).2 + m.ext k → ¬ (fr.1 ≤ o ∧ o < fr.2) ∧ (c.w0.heap.size ≤ (m.base k).1 ∨ c.A (m.base k).1 o)) ∧
    ∃ vs, VRs (At st w m) true blk.cells vs ∧ ∀ j v, vs[j]? = some v → cs[(m.base k).2 + j]? = some v := by
  have := (h.blk k blk hb).2.2
  rw [hk] at this
  exact this

theorem RelM.mapAt (h : RelM c nt st a w m) {k : Nat} {blk : Blk} (hb : aget k st.heap = some blk) (hk : isMapKey k = true) : MapOK c (At st w m) k blk := by
  have := (h.blk k blk hb).2.2
  rw [hk] at this
  exact this

theorem Mp.set_self (m : Mp) (k : Nat) : m.set k (m.base k) (m.ext k) = m := by
  cases m; simp only [Mp.set]; congr 1 <;> (funext j; split <;> simp_all)

theorem RelM.reads (h : RelM c nt st a w m) {k : Nat} {blk : Blk} (hb : aget k st.heap = some blk) (hk : isMapKey k = false := by first | assumption | (apply blkOf_key; assumption)) :
    ∃ vs, VRs (At st w m) true blk.cells vs ∧ ∀ j v, vs[j]? = some v → w.cell? ⟨(m.base k).1, (m.base k).2 + j, none⟩ = some v := by
  rcases h.blkAt hb with ⟨g, _⟩ | ⟨cs, e, fr, g1, g2, g3, g4, g5, vs, g6, g7⟩
  · exact ⟨[], g ▸ .nil _, fun j v hj => by simp at hj⟩
  · exact ⟨vs, g6, fun j v hj => by rw [block_cell g1]; exact g7 j v hj⟩

theorem VR.ref_inv {s : S} {k : Nat} {σ : Nat × Nat} {o : Nat} {x : Value} (h : VR s (.ref k σ o) x) {blk : Blk} (hb : aget k s.heap = some blk) (hs : blk.stamp = σ) :
    x = .pointer (some ⟨(s.m.base k).1, (s.m.base k).2 + o, none⟩) := by
  cases h with | ref hok hl => rw [(hl blk hb hs).1, (hl blk hb hs).2]

theorem VR.ipt_inv {s : S} {cells : List AV} {x : Value} (h : VR s (.ipt cells) x) : ∃ a vs, x = .pointer (some ⟨a.block, a.off, none⟩) ∧ Reads s a vs ∧ VRs s true cells vs := by
  cases h with | ipt ha hr hv => exact ⟨_, _, by rw [← addr_eta ha], hr, hv⟩

theorem ok_load (h : RelM c nt st a w m) {t : Nat} {i : TI} (hi : TIOK P t i) {av v : AV} {x : Value} (hx : VR (At st w m) av x) (hl : aLoad i st av = some v) :
    ∃ y, (Instr.loadAt t x).run P w = .ok y w ∧ VR (At st w m) v y := by
  unfold aLoad at hl
  split at hl
  · rename_i k σ o
    cases hb : blkOf st k σ with
    | none => simp [hb] at hl
    | some cells =>
      simp only [hb, Option.bind_some] at hl
      obtain ⟨blk, h1, h2, rfl⟩ := blkOf_some hb
      obtain ⟨vs, g1, g2⟩ := h.reads h1
      have hx' := hx.ref_inv h1 h2
      subst hx'
      obtain ⟨y, k1, k2⟩ := run_rd hi g1 hl (m.base k).1 (m.base k).2 w g2
      exact ⟨y, by simpa [Instr.loadAt, Instr.sureAddr] using k1, k2⟩
  · rename_i cells
    obtain ⟨b, vs, rfl, hr, hv⟩ := hx.ipt_inv
    obtain ⟨y, k1, k2⟩ := run_rd hi hv hl b.block b.off w (fun j u hj => (hr j u hj).1)
    exact ⟨y, by simpa [Instr.loadAt, Instr.sureAddr] using k1, k2⟩
  · cases hl

/-- A load, of a package variable too. -/
theorem ok_gload (h : RelM c nt st a w m) {t : Nat} {i : TI} (hi : TIOK P t i) {rd : List (Nat × List Nat)} (hrd : ∀ g, (aget (1000000000 + g) rd).isSome = true → errG P g = true) (hg : GlobP P c.gl) {av v : AV} {x : Value} (hx : VR (At st w m) av x) (hl : gLoad rd i st av = some v) :
    ∃ y, (Instr.loadAt t x).run P w = .ok y w ∧ VR (At st w m) v y := by
  unfold gLoad at hl
  split at hl
  · rename_i g
    split at hl
    · rename_i hc
      obtain rfl := Option.some.inj hl
      rw [Bool.and_eq_true] at hc
      obtain ⟨u, hu⟩ := hg.all g (hrd g hc.1)
      obtain ⟨T, te, _, _, _, _, _, _, _, hs⟩ := hg.shape g u hu
      obtain ⟨ad, rfl⟩ := hs g u hu
      have hu' : m.gl g = some (.iface T (.pointer (some ad))) := by rw [h.mB.2.2.2.1]; exact hu
      obtain ⟨⟨k1, k2⟩, _⟩ := h.globs g _ hu'
      have hie : i.isAgg = false := by
        have := hc.2
        unfold TI.isErr at this
        unfold TI.isAgg
        split at this <;> simp_all
      have hiz : i.size = 1 := by
        have := hc.2
        unfold TI.isErr at this
        split at this <;> simp_all
      obtain ⟨y, q1, q2⟩ := run_rd (v := .err g) (cells := [.err g]) (o := 0) hi (VRs.cons (s := At st w m) (one := true) (fun _ => ⟨rfl, rfl⟩) (.err hu') (.nil _)) (by simp [rdCells, hie]) g 0 w (fun j u hj => by
        cases j with
        | zero => simp only [List.getElem?_cons_zero, Option.some.injEq] at hj; subst hj; exact k1
        | succ j => simp at hj)
      cases hx
      exact ⟨y, by simpa [Instr.loadAt, Instr.sureAddr] using q1, q2⟩
    · cases hl
  · exact ok_load h hi hx hl

/-- Cells of a block of one's own are written. -/
theorem RelM.write (h : RelM c nt st a w m) {k : Nat} {blk : Blk} (hb : aget k st.heap = some blk) {o : Nat} {ds : List AV} {us : List Value} (hd : VRs (At st w m) true ds us)
    (hle : o + ds.length ≤ blk.cells.length) (hk : isMapKey k = false := by first | assumption | (apply blkOf_key; assumption)) :
    ∃ w', (storeCells ⟨(m.base k).1, (m.base k).2 + o, none⟩ us).run P w = .ok () w' ∧ RelM c nt (putCells st k (setR blk.cells o ds)) a w' m ∧ Later (At st w m) (At (putCells st k (setR blk.cells o ds)) w' m) := by
  have hlen := hd.length
  have hput : putCells st k (setR blk.cells o ds) = turned st k ⟨blk.stamp, setR blk.cells o ds⟩ st.next := by
    simp [putCells, hb, turned]
  have hmset := m.set_self k
  have hsl : (setR blk.cells o ds).length = blk.cells.length := by simp [setR]; omega
  have hB := h.blk k blk hb
  rcases h.blkAt hb with ⟨g, g'⟩ | ⟨cs, e, fr, g1, g2, g3, g4, g5, vs, g6, g7⟩
  · -- no cells: nothing is written
    have h0 : ds = [] := by rw [g] at hle; simp at hle; exact hle.2
    have h1 : us = [] := by rw [h0] at hlen; simpa using hlen.symm
    subst h0; subst h1
    have hT : Turn st w m k ⟨blk.stamp, setR blk.cells o []⟩ st.next w (m.base k) (m.ext k) :=
      ⟨Pres.refl _ _, Nat.le_refl _, .inl g', .inl ⟨blk, hb, rfl, rfl, rfl, hsl.symm⟩⟩
    have hl := hT.later
    have hR := h.turn hT (by
      rw [hmset] at hl ⊢
      exact ⟨hl.ok _ hB.1, hB.2.1, by rw [hk]; exact .inl ⟨by show setR blk.cells o [] = []; rw [← List.length_eq_zero_iff, hsl, g]; rfl, g'⟩⟩)
    rw [hmset] at hl hR
    exact ⟨w, by simp [storeCells], by rw [hput]; exact hR, by rw [hput]; exact hl⟩
  · have gl := g6.length
    have hrun := run_store_row (P := P) (m.base k).1 ((m.base k).2 + o) e fr us 0 cs w g1 (by omega) (fun j k1 k2 => (g5 j (by omega) (by omega)).1) hd.one
    simp only [Nat.add_zero] at hrun
    have hin : ∀ j, ¬ In st m k (m.base k).1 j → (splice cs ((m.base k).2 + o) us)[j]? = cs[j]? := fun j hj => by
      rw [splice_get _ _ _ (by omega), if_neg]
      intro hx
      exact hj ⟨⟨blk, hb⟩, rfl, by omega, by omega⟩
    have hT : Turn st w m k ⟨blk.stamp, setR blk.cells o ds⟩ st.next (w.putRow (m.base k).1 (splice cs ((m.base k).2 + o) us) e fr) (m.base k) (m.ext k) := by
      refine ⟨?_, Nat.le_refl _, .inr (.inr ⟨⟨blk, hb⟩, rfl, Nat.le_refl _, Nat.le_refl _⟩), .inl ⟨blk, hb, rfl, rfl, rfl, hsl.symm⟩⟩
      refine Pres.putRow g1 (size_splice _ _ _ (by omega)) (fun j hj => hin j hj)
    have hl := hT.later
    have hlt : (m.base k).1 < w.heap.size := (Array.getElem?_eq_some_iff.1 g1).1
    have hR := h.turn hT (by
      rw [hmset] at hl ⊢
      refine ⟨hl.ok _ hB.1, hB.2.1, by rw [hk]; exact .inr ⟨splice cs ((m.base k).2 + o) us, e, fr, by rw [heap_putRow]; simp [hlt], by rw [size_splice _ _ _ (by omega)]; exact g2,
        by show (setR blk.cells o ds).length ≤ m.ext k; rw [hsl]; exact g3, g4, g5, vs.take o ++ us ++ vs.drop (o + us.length), (g6.later hl).setR (hd.later hl) o, fun j v hj => by
        show (splice cs ((m.base k).2 + o) us)[(m.base k).2 + j]? = some v
        rw [splice_get _ _ _ (by omega)]
        by_cases h1 : j < o
        · rw [if_neg (by omega)]
          rw [List.append_assoc, List.getElem?_append_left (by simp; omega), List.getElem?_take, if_pos h1] at hj
          exact g7 j v hj
        · by_cases h2 : j < o + us.length
          · rw [if_pos ⟨by omega, by omega⟩]
            rw [List.append_assoc, List.getElem?_append_right (by simp; omega), List.getElem?_append_left (by simp; omega)] at hj
            simp only [List.length_take, Nat.min_eq_left (show o ≤ vs.length by omega)] at hj
            rw [← hj]; congr 1; omega
          · rw [if_neg (by omega)]
            rw [List.getElem?_append_right (by simp; omega)] at hj
            simp only [List.length_append, List.length_take, Nat.min_eq_left (show o ≤ vs.length by omega), List.getElem?_drop] at hj
            refine g7 j v ?_
            rw [← hj]; congr 1; omega⟩⟩)
    rw [hmset] at hl hR
    exact ⟨_, hrun, by rw [hput]; exact hR, by rw [hput]; exact hl⟩

theorem ok_store (h : RelM c nt st a w m) {t : Nat} {i : TI} (hi : TIOK P t i) {av v : AV} {x y : Value} (hx : VR (At st w m) av x) (hy : VR (At st w m) v y) {st' : St} (hs : aStore i st av v = some st') :
    ∃ w' m', (Instr.storeAt t x y).run P w = .ok () w' ∧ RelM c nt st' a w' m' := by
  unfold aStore at hs
  split at hs
  · rename_i k σ o
    cases hb : blkOf st k σ with
    | none => simp [hb] at hs
    | some cells =>
      simp only [hb, Option.bind_some] at hs
      obtain ⟨blk, h1, h2, rfl⟩ := blkOf_some hb
      split at hs
      · rename_i hc
        obtain ⟨c1, c2, c3⟩ := hc
        simp only [Option.some.injEq] at hs
        subst hs
        have hx' := hx.ref_inv h1 h2
        subst hx'
        have hd := hy.cells c1
        obtain ⟨w', r1, r2, _⟩ := h.write (P := P) (o := o) h1 hd (by omega)
        refine ⟨w', m, ?_, r2⟩
        have hsz : y.cells.size = i.size := by have := hd.length; simp at this; omega
        simp [Instr.storeAt, Instr.sureAddr, storeVar, hi.run_size, hsz, r1]
      · cases hs
  · cases hs
end

end Go.Sim
