/- How the interpreter's values and states stand to the model's: the relations, and how they are kept. -/
import Derived.Test.YtmckiigefkfpaaaDoorSimDef
set_option linter.unusedVariables false
set_option linter.unusedSimpArgs false
namespace Go.Sim
open Go

/-! ## lists by keys -/

theorem aget_aput {α : Type} (k j : Nat) (v : α) (l : List (Nat × α)) : aget k (aput j v l) = if j = k then some v else aget k l := by
  induction l with
  | nil => simp [aput, aget]
  | cons p l ih =>
    obtain ⟨i, u⟩ := p
    simp only [aput]
    by_cases h : i = j
    · subst h; simp only [if_true, aget]; by_cases h2 : i = k <;> simp [h2]
    · simp only [if_neg h, aget, ih]
      by_cases h2 : i = k
      · subst h2; simp [Ne.symm h]
      · simp [h2]

theorem aget_adel {α : Type} (k j : Nat) (l : List (Nat × α)) : aget k (adel j l) = if j = k then none else aget k l := by
  induction l with
  | nil => simp [adel, aget]
  | cons p l ih =>
    obtain ⟨i, u⟩ := p
    simp only [adel]
    by_cases h : i = j
    · subst h; simp only [if_true, ih, aget]; by_cases h2 : i = k <;> simp [h2]
    · simp only [if_neg h, aget, ih]
      by_cases h2 : i = k
      · subst h2; simp [Ne.symm h]
      · simp [h2]

theorem aget_pick {α : Type} (k : Nat) (ks : List Nat) (l : List (Nat × α)) {v : α} (h : aget k (ks.filterMap fun j => (aget j l).map (j, ·)) = some v) : aget k l = some v := by
  induction ks with
  | nil => simp [aget] at h
  | cons j ks ih =>
    cases hj : aget j l with
    | none => simp [List.filterMap_cons, hj] at h; exact ih h
    | some u =>
      simp only [List.filterMap_cons, hj, Option.map_some, aget] at h
      by_cases e : j = k
      · subst e; simp at h; subst h; exact hj
      · simp only [if_neg e] at h; exact ih h

theorem aget_append {α : Type} (k : Nat) : ∀ (l r : List (Nat × α)), aget k (l ++ r) = (aget k l).or (aget k r)
  | [], r => by simp [aget]
  | (j, u) :: l, r => by
    simp only [List.cons_append, aget]
    by_cases e : j = k
    · simp [e]
    · simp only [if_neg e, aget_append k l r]

theorem aget_filter {α : Type} (k : Nat) (f : Nat → Bool) {v : α} : ∀ (l : List (Nat × α)), aget k (l.filter fun p => f p.1) = some v → aget k l = some v
  | [], h => by simp [aget] at h
  | (j, u) :: l, h => by
    simp only [List.filter_cons] at h
    by_cases e : j = k
    · subst e
      split at h
      · simpa [aget] using h
      · rename_i hf
        exfalso
        have : ∀ (l : List (Nat × α)), aget j (l.filter fun p => f p.1) = none := fun l => by
          induction l with
          | nil => rfl
          | cons p l ih =>
            simp only [List.filter_cons]
            split
            · rename_i hp
              obtain ⟨i, w⟩ := p
              simp only [aget]
              rw [if_neg (fun e => hf (by rw [← e]; exact hp))]
              exact ih
            · exact ih
        rw [this l] at h
        cases h
    · split at h
      · simp only [aget, if_neg e] at h ⊢
        exact aget_filter k f l h
      · simp only [aget, if_neg e]
        exact aget_filter k f l h

/-! ## stamps -/

/-- A stamp made ahead of now: by an activation further out, or by this one. -/
def okS (tag : Nat) (n : Nat) (σ : Nat × Nat) : Prop := σ.1 < tag ∨ (σ.1 = tag ∧ σ.2 < n)

theorem okS_mono {tag : Nat} {n n' : Nat} {σ : Nat × Nat} (h : okS tag n σ) (hn : n ≤ n') : okS tag n' σ := by
  unfold okS at *; omega

/-- A stamp that is fresh now is none of those that are met. -/
theorem okS_fresh {tag : Nat} {n : Nat} : ¬ okS tag n (tag, n) := by
  simp [okS]

/-- A stamp made now. -/
theorem okS_new (tag : Nat) (n : Nat) : okS tag (n + 1) (tag, n) := by
  simp [okS]

/-- What was made ahead of a call was so at the callee's beginning. -/
theorem okS_call {tag : Nat} {n : Nat} {σ : Nat × Nat} (m : Nat) (h : okS tag n σ) : okS (tag + 1) m σ := by
  unfold okS at *; omega

/-! ## what may turn -/

/-- From w to w' no cell turns but those of A; what was there is there; the rest is as it was. -/
structure Pres (A : Nat → Nat → Prop) (w w' : World) : Prop where
  os : w'.os = w.os
  tape : w'.tape = w.tape
  output : w'.output = w.output
  size : w.heap.size ≤ w'.heap.size
  cells : ∀ (b : Nat) (c : Array Value) (e : TypeId) (fr : Nat × Nat), w.heap[b]? = some (.cells c e fr) → ∃ c' : Array Value, w'.heap[b]? = some (.cells c' e fr) ∧ c'.size = c.size ∧ ∀ o : Nat, ¬ A b o → c'[o]? = c[o]?
  other : ∀ (b : Nat) (ob : Obj), w.heap[b]? = some ob → (∀ c e fr, ob ≠ Obj.cells c e fr) → ¬ A b 0 → w'.heap[b]? = some ob
  maps : ∀ (b : Nat) (es : Array MapEntry) (n : Nat), w.heap[b]? = some (.map es n) → ∃ (es' : Array MapEntry) (n' : Nat), w'.heap[b]? = some (.map es' n')
  rest : ∀ (b : Nat) (ob : Obj), w.heap[b]? = some ob → (∀ c e fr, ob ≠ Obj.cells c e fr) → (∀ es n, ob ≠ Obj.map es n) → w'.heap[b]? = some ob

theorem Pres.refl (A : Nat → Nat → Prop) (w : World) : Pres A w w :=
  ⟨rfl, rfl, rfl, Nat.le_refl _, fun _ c _ _ h => ⟨c, h, rfl, fun _ _ => rfl⟩, fun _ _ h _ _ => h, fun _ es n h => ⟨es, n, h⟩, fun _ _ h _ _ => h⟩

theorem Pres.trans {A B C : Nat → Nat → Prop} {w w1 w2 : World} (h : Pres A w w1) (k : Pres B w1 w2)
    (hA : ∀ b o, b < w.heap.size → A b o → C b o) (hB : ∀ b o, b < w.heap.size → B b o → C b o) : Pres C w w2 := by
  refine ⟨k.os.trans h.os, k.tape.trans h.tape, k.output.trans h.output, Nat.le_trans h.size k.size, fun b c e fr hb => ?_, fun b ob hb hn hC => ?_, fun b es n hb => ?_, fun b ob hb hn hm => k.rest b ob (h.rest b ob hb hn hm) hn hm⟩
  rotate_left
  · have hlt : b < w.heap.size := (Array.getElem?_eq_some_iff.1 hb).1
    exact k.other b ob (h.other b ob hb hn (fun x => hC (hA b 0 hlt x))) hn (fun x => hC (hB b 0 hlt x))
  · obtain ⟨es1, n1, h1⟩ := h.maps b es n hb
    exact k.maps b es1 n1 h1
  have hlt : b < w.heap.size := (Array.getElem?_eq_some_iff.1 hb).1
  obtain ⟨c1, h1, s1, g1⟩ := h.cells b c e fr hb
  obtain ⟨c2, h2, s2, g2⟩ := k.cells b c1 e fr h1
  exact ⟨c2, h2, s2.trans s1, fun o ho => (g2 o (fun hx => ho (hB b o hlt hx))).trans (g1 o (fun hx => ho (hA b o hlt hx)))⟩

theorem Pres.mono {A C : Nat → Nat → Prop} {w w1 : World} (h : Pres A w w1) (hA : ∀ b o, b < w.heap.size → A b o → C b o) : Pres C w w1 :=
  h.trans (Pres.refl (fun _ _ => False) w1) hA (fun _ _ _ x => x.elim)

theorem Pres.alloc (A : Nat → Nat → Prop) (w : World) (ob : Obj) : Pres A w (w.alloc ob) := by
  have key : ∀ b x, w.heap[b]? = some x → (w.alloc ob).heap[b]? = some x := fun b x h => by
    have hlt : b < w.heap.size := (Array.getElem?_eq_some_iff.1 h).1
    show (w.heap.push ob)[b]? = _
    rw [Array.getElem?_push, if_neg (by omega)]; exact h
  exact ⟨rfl, rfl, rfl, by simp, fun b c e fr h => ⟨c, key b _ h, rfl, fun _ _ => rfl⟩, fun b x h _ _ => key b x h, fun b es n h => ⟨es, n, key b _ h⟩, fun b x h _ _ => key b x h⟩

theorem Pres.drew (A : Nat → Nat → Prop) (w : World) : Pres A w w.drew :=
  ⟨rfl, rfl, rfl, Nat.le_refl _, fun _ c _ _ h => ⟨c, h, rfl, fun _ _ => rfl⟩, fun _ _ h _ _ => h, fun _ es n h => ⟨es, n, h⟩, fun _ _ h _ _ => h⟩

/-- A row of cells, some of them written. -/
def _root_.Go.World.putRow (w : World) (b : Nat) (c : Array Value) (e : TypeId) (fr : Nat × Nat) : World := { w with heap := w.heap.setIfInBounds b (.cells c e fr) }

theorem heap_putRow (w : World) (b : Nat) (c : Array Value) (e : TypeId) (fr : Nat × Nat) (k : Nat) :
    (w.putRow b c e fr).heap[k]? = if k = b ∧ b < w.heap.size then some (.cells c e fr) else w.heap[k]? := by
  simp only [World.putRow]
  rw [Array.getElem?_setIfInBounds]
  by_cases h : b = k
  · subst h; by_cases h2 : b < w.heap.size <;> simp [h2]
  · simp [h, Ne.symm h]

theorem Pres.putRow {A : Nat → Nat → Prop} {w : World} {b : Nat} {c c' : Array Value} {e : TypeId} {fr : Nat × Nat} (hb : w.heap[b]? = some (.cells c e fr))
    (hs : c'.size = c.size) (hc : ∀ o, ¬ A b o → c'[o]? = c[o]?) : Pres A w (w.putRow b c' e fr) := by
  have hlt : b < w.heap.size := (Array.getElem?_eq_some_iff.1 hb).1
  have oth : ∀ (k : Nat) (ob : Obj), w.heap[k]? = some ob → (∀ c e fr, ob ≠ Obj.cells c e fr) → (w.putRow b c' e fr).heap[k]? = some ob := fun k ob hk hn => by
    by_cases h : k = b
    · subst h; rw [hb] at hk; cases hk; exact (hn _ _ _ rfl).elim
    · rw [heap_putRow, if_neg (by simp [h])]; exact hk
  refine ⟨rfl, rfl, rfl, by simp [World.putRow], fun k d e' fr' hk => ?_, fun k ob hk hn _ => oth k ob hk hn, fun k es n hk => ⟨es, n, oth k _ hk (by intros; simp)⟩, fun k ob hk hn _ => oth k ob hk hn⟩
  · by_cases h : k = b
    · subst h
      rw [hb] at hk
      obtain ⟨rfl, rfl, rfl⟩ : c = d ∧ e = e' ∧ fr = fr' := by simpa using hk
      exact ⟨c', by rw [heap_putRow]; simp [hlt], hs, hc⟩
    · exact ⟨d, by rw [heap_putRow, if_neg (by simp [h])]; exact hk, rfl, fun _ _ => rfl⟩

/-- A map turns. -/
def _root_.Go.World.putMap (w : World) (b : Nat) (es : Array MapEntry) (n : Nat) : World := { w with heap := w.heap.setIfInBounds b (.map es n) }

theorem heap_putMap (w : World) (b : Nat) (es : Array MapEntry) (n : Nat) (k : Nat) :
    (w.putMap b es n).heap[k]? = if k = b ∧ b < w.heap.size then some (.map es n) else w.heap[k]? := by
  simp only [World.putMap]
  rw [Array.getElem?_setIfInBounds]
  by_cases h : b = k
  · subst h; by_cases h2 : b < w.heap.size <;> simp [h2]
  · simp [h, Ne.symm h]

theorem Pres.putMap {A : Nat → Nat → Prop} {w : World} {b : Nat} {es es' : Array MapEntry} {n n' : Nat} (hb : w.heap[b]? = some (.map es n)) (hA : A b 0) : Pres A w (w.putMap b es' n') := by
  have hlt : b < w.heap.size := (Array.getElem?_eq_some_iff.1 hb).1
  have key : ∀ (k : Nat) (ob : Obj), w.heap[k]? = some ob → k ≠ b → (w.putMap b es' n').heap[k]? = some ob := fun k ob hk h => by
    rw [heap_putMap, if_neg (by simp [h])]; exact hk
  refine ⟨rfl, rfl, rfl, by simp [World.putMap], fun k d e' fr' hk => ?_, fun k ob hk hn hA' => ?_, fun k es0 n0 hk => ?_, fun k ob hk hn hm => ?_⟩
  · by_cases h : k = b
    · subst h; rw [hb] at hk; cases hk
    · exact ⟨d, key k _ hk h, rfl, fun _ _ => rfl⟩
  · by_cases h : k = b
    · subst h; exact (hA' hA).elim
    · exact key k ob hk h
  · by_cases h : k = b
    · subst h; exact ⟨es', n', by rw [heap_putMap]; simp [hlt]⟩
    · exact ⟨es0, n0, key k _ hk h⟩
  · by_cases h : k = b
    · subst h; rw [hb] at hk; cases hk; exact (hm _ _ rfl).elim
    · exact key k ob hk h

/-! ## values -/

def PV : AV → Value → Prop
  | .bool b, v => v = .bool b
  | .int k n, v => v = .int k n
  | .str b, v => v = .string b
  | .nilp, v => v = .pointer none
  | .nsl, v => ∃ a, v = .slice a 0 0
  | .nilI, v => v = .nilIface
  | .nilF, v => v = .nilFunc
  | .nilM, v => v = .map none
  | _, _ => False

inductive PVs : List AV → List Value → Prop
  | nil : PVs [] []
  | cons {c : AV} {v : Value} {cs : List AV} {vs : List Value} (h : PV c v) (hs : PVs cs vs) : PVs (c :: cs) (v :: vs)

theorem PVs.length {cs : List AV} {vs : List Value} (h : PVs cs vs) : cs.length = vs.length := by
  induction cs generalizing vs with
  | nil => cases h; rfl
  | cons c cs ih => cases h with | cons hv hs => simp [ih hs]

/-- Where the blocks of an activation lie, and how much memory is theirs; from which block on memory is new; which memory is a caller's own, and not to be met. -/
structure Mp where
  base : Nat → Nat × Nat
  ext : Nat → Nat
  B : Nat
  ban : Nat → Nat → Prop
  gl : Nat → Option Value

structure S where
  w : World
  heap : List (Nat × Blk)
  m : Mp
  tag : Nat
  next : Nat

def Own (s : S) (b o : Nat) : Prop := ∃ k blk, aget k s.heap = some blk ∧ (s.m.base k).1 = b ∧ (s.m.base k).2 ≤ o ∧ o < (s.m.base k).2 + s.m.ext k

/-- What is an activation's own, or a caller's. -/
def Held (s : S) (b o : Nat) : Prop := Own s b o ∨ s.m.ban b o

/-- Memory that is read and that is none's own. -/
def Reads (s : S) (a : Addr) (vs : List Value) : Prop :=
  ∀ k v, vs[k]? = some v → s.w.cell? ⟨a.block, a.off + k, none⟩ = some v ∧ ¬ Held s a.block (a.off + k)

/-- How a slice of a block of one's own stands in memory. -/
def SlOK (s : S) (site : Nat) (blk : Blk) (sz off len : Nat) (v : Value) : Prop :=
  off + len * sz ≤ blk.cells.length ∧
  ((∃ cap, v = .slice (some ⟨(s.m.base site).1, (s.m.base site).2 + off, none⟩) len cap ∧ len ≤ cap ∧ off + cap * sz ≤ s.m.ext site) ∨
   (len = 0 ∧ ∃ a, v = .slice a 0 0))

def isSlice (n : Nat) : Value → Prop
  | .slice _ n' cap => n' = n ∧ n ≤ cap
  | _ => False

mutual
inductive VR (s : S) : AV → Value → Prop
  | junk (v : Value) : VR s .junk v
  | bool (b : Bool) : VR s (.bool b) (.bool b)
  | int (k : IntKind) (n : Int) : VR s (.int k n) (.int k n)
  | str (b : ByteArray) : VR s (.str b) (.string b)
  | nilp : VR s .nilp (.pointer none)
  | ref {site : Nat} {σ : Nat × Nat} {o b o' : Nat} (h : okS s.tag s.next σ)
      (hl : ∀ blk, aget site s.heap = some blk → blk.stamp = σ → b = (s.m.base site).1 ∧ o' = (s.m.base site).2 + o) : VR s (.ref site σ o) (.pointer (some ⟨b, o', none⟩))
  | msl {site : Nat} {σ : Nat × Nat} {sz off len : Nat} {v : Value} (h : okS s.tag s.next σ) (hv : isSlice len v)
      (hl : ∀ blk, aget site s.heap = some blk → blk.stamp = σ → SlOK s site blk sz off len v) : VR s (.msl site σ sz off len) v
  | isl {sz n cap : Nat} {cells : List AV} {a : Addr} {vs : List Value} (ha : a.spot = none) (hcap : n ≤ cap) (hlen : cells.length = n * sz) (hr : Reads s a vs) (hv : VRs s true cells vs) : VR s (.isl sz n cells) (.slice (some a) n cap)
  | islnil {sz : Nat} {a : Option Addr} {cap : Nat} : VR s (.isl sz 0 []) (.slice a 0 cap)
  | fsl {sz n cap b o : Nat} {cells : List AV} {vs : List Value} {cs : Array Value} {e : TypeId} {fr : Nat × Nat} (hB : s.m.B ≤ b) (hb : s.w.heap[b]? = some (.cells cs e fr)) (hsz : o + cap * sz ≤ cs.size)
      (hcap : n ≤ cap) (hlen : cells.length = n * sz) (hv : PVs cells vs) (hc : ∀ (j : Nat) (v : Value), vs[j]? = some v → cs[o + j]? = some v)
      (hf : ∀ k, o ≤ k → k < o + cap * sz → ¬ (fr.1 ≤ k ∧ k < fr.2) ∧ ¬ Held s b k) : VR s (.fsl sz n cells) (.slice (some ⟨b, o, none⟩) n cap)
  | fslnil {sz : Nat} {a : Option Addr} : VR s (.fsl sz 0 []) (.slice a 0 0)
  | nsl {a : Option Addr} : VR s .nsl (.slice a 0 0)
  | ipt {cells : List AV} {a : Addr} {vs : List Value} (ha : a.spot = none) (hr : Reads s a vs) (hv : VRs s true cells vs) : VR s (.ipt cells) (.pointer (some a))
  | agg {cells : List AV} {vs : List Value} (hv : VRs s true cells vs) : VR s (.agg cells) (.agg vs.toArray)
  | tup {cells : List AV} {vs : List Value} (hv : VRs s false cells vs) : VR s (.tup cells) (.tuple vs.toArray)
  | nilI : VR s .nilI .nilIface
  | nilF : VR s .nilF .nilFunc
  | nilM : VR s .nilM (.map none)
  | gref (g : Nat) : VR s (.gref g) (.pointer (some ⟨g, 0, none⟩))
  | err {g T : Nat} {a : Addr} (h : s.m.gl g = some (.iface T (.pointer (some a)))) : VR s (.err g) (.iface T (.pointer (some a)))
  | mref {site : Nat} {σ : Nat × Nat} {b : Nat} (h : okS s.tag s.next σ) (hl : ∀ blk, aget site s.heap = some blk → blk.stamp = σ → b = (s.m.base site).1) : VR s (.mref site σ) (.map (some b))
  | fn {f : Nat} {cells : List AV} {vs : List Value} (hv : VRs s true cells vs) : VR s (.fn f cells) (.func (.func f) #[] vs.toArray)
inductive VRs (s : S) : Bool → List AV → List Value → Prop
  | nil (one : Bool) : VRs s one [] []
  | cons {one : Bool} {c : AV} {v : Value} {cells : List AV} {vs : List Value} (h1 : one = true → v.oneCell' = true ∧ c.top = true) (h : VR s c v) (hs : VRs s one cells vs) : VRs s one (c :: cells) (v :: vs)
end

/-- What has to hold between two moments, that values stay related. -/
structure Later (s s' : S) : Prop where
  pres : Pres (Own s) s.w s'.w
  own : ∀ b o, b < s.w.heap.size → Own s' b o → Own s b o
  live : ∀ site blk', aget site s'.heap = some blk' → okS s.tag s.next blk'.stamp →
    ∃ blk, aget site s.heap = some blk ∧ blk.stamp = blk'.stamp ∧ s'.m.base site = s.m.base site ∧ s'.m.ext site = s.m.ext site ∧ blk.cells.length = blk'.cells.length
  ok : ∀ σ, okS s.tag s.next σ → okS s'.tag s'.next σ
  ban : ∀ b o, b < s.w.heap.size → s'.m.ban b o → Held s b o
  gl : s'.m.gl = s.m.gl

theorem cell_block {w : World} {b o : Nat} {v : Value} (h : w.cell? ⟨b, o, none⟩ = some v) : ∃ c e fr, w.heap[b]? = some (.cells c e fr) ∧ c[o]? = some v := by
  unfold World.cell? at h
  simp only [] at h
  split at h
  · rename_i c e fr heq
    exact ⟨c, e, fr, heq, by simpa using h⟩
  · cases h

theorem block_cell {w : World} {b o : Nat} {c : Array Value} {e : TypeId} {fr : Nat × Nat} (h : w.heap[b]? = some (.cells c e fr)) : w.cell? ⟨b, o, none⟩ = c[o]? := by
  simp [World.cell?, h]

theorem Later.held {s s' : S} (h : Later s s') {b o : Nat} (hb : b < s.w.heap.size) (ho : Held s' b o) : Held s b o :=
  ho.elim (fun x => .inl (h.own b o hb x)) (fun x => h.ban b o hb x)

theorem Later.cell {s s' : S} (h : Later s s') {b o : Nat} {v : Value} (hc : s.w.cell? ⟨b, o, none⟩ = some v) (hn : ¬ Held s b o) :
    s'.w.cell? ⟨b, o, none⟩ = some v ∧ ¬ Held s' b o := by
  obtain ⟨c, e, fr, hb, ho⟩ := cell_block hc
  obtain ⟨c', hb', _, hk⟩ := h.pres.cells b c e fr hb
  have hlt : b < s.w.heap.size := (Array.getElem?_eq_some_iff.1 hb).1
  exact ⟨by rw [block_cell hb', hk o (fun x => hn (.inl x)), ho], fun hx => hn (h.held hlt hx)⟩

theorem Later.reads {s s' : S} (h : Later s s') {a : Addr} {vs : List Value} (hr : Reads s a vs) : Reads s' a vs :=
  fun k v hk => h.cell (hr k v hk).1 (hr k v hk).2

theorem Later.fsl {s s' : S} (h : Later s s') (ht : s'.m.B ≤ s.m.B) {sz n cap b o : Nat} {cells : List AV} {vs : List Value} {cs : Array Value} {e : TypeId} {fr : Nat × Nat} (hB : s.m.B ≤ b) (hb : s.w.heap[b]? = some (.cells cs e fr)) (hsz : o + cap * sz ≤ cs.size)
    (hcap : n ≤ cap) (hlen : cells.length = n * sz) (hv : PVs cells vs) (hc : ∀ (j : Nat) (v : Value), vs[j]? = some v → cs[o + j]? = some v)
    (hf : ∀ k, o ≤ k → k < o + cap * sz → ¬ (fr.1 ≤ k ∧ k < fr.2) ∧ ¬ Held s b k) : VR s' (.fsl sz n cells) (.slice (some ⟨b, o, none⟩) n cap) := by
  obtain ⟨cs', k1, k2, k3⟩ := h.pres.cells b cs e fr hb
  have hlt : b < s.w.heap.size := (Array.getElem?_eq_some_iff.1 hb).1
  have hlv := hv.length
  have hle : n * sz ≤ cap * sz := Nat.mul_le_mul_right _ hcap
  refine .fsl (Nat.le_trans ht hB) k1 (by rw [k2]; exact hsz) hcap hlen hv (fun j v hj => ?_) (fun k k4 k5 => ⟨(hf k k4 k5).1, fun ho => (hf k k4 k5).2 (h.held hlt ho)⟩)
  have hj' := (List.getElem?_eq_some_iff.1 hj).1
  rw [k3 _ (fun x => (hf (o + j) (by omega) (by omega)).2 (.inl x))]
  exact hc j v hj

mutual
theorem VR.move {s s' : S} (h : Later s s') : ∀ {c : AV} {v : Value}, (s'.m.B ≤ s.m.B ∨ c.top = true) → VR s c v → VR s' c v
  | _, _, _, .junk v => .junk v
  | _, _, _, .bool b => .bool b
  | _, _, _, .int k n => .int k n
  | _, _, _, .str b => .str b
  | _, _, _, .nilp => .nilp
  | _, _, _, .ref hok hl => .ref (h.ok _ hok) fun blk' hb hs => by
      obtain ⟨blk, h1, h2, h3, _, _⟩ := h.live _ blk' hb (hs ▸ hok)
      rw [h3]; exact hl blk h1 (h2.trans hs)
  | _, _, _, .msl hok hv hl => .msl (h.ok _ hok) hv fun blk' hb hs => by
      obtain ⟨blk, h1, h2, h3, h4, h5⟩ := h.live _ blk' hb (hs ▸ hok)
      have := hl blk h1 (h2.trans hs)
      unfold SlOK at *
      rw [h3, h4, ← h5]; exact this
  | _, _, _, .isl ha hcap hlen hr hv => .isl ha hcap hlen (h.reads hr) (hv.move h (.inr rfl))
  | _, _, _, .islnil => .islnil
  | _, _, ht, .fsl hB hb hsz hcap hlen hv hc hf => ht.elim (fun e => h.fsl e hB hb hsz hcap hlen hv hc hf) (fun x => by cases x)
  | _, _, _, .fslnil => .fslnil
  | _, _, _, .nsl => .nsl
  | _, _, _, .ipt ha hr hv => .ipt ha (h.reads hr) (hv.move h (.inr rfl))
  | _, _, _, .agg hv => .agg (hv.move h (.inr rfl))
  | _, _, ht, .tup hv => .tup (hv.move h (ht.imp id (fun x => by cases x)))
  | _, _, _, .nilI => .nilI
  | _, _, _, .nilF => .nilF
  | _, _, _, .nilM => .nilM
  | _, _, _, .gref g => .gref g
  | _, _, _, .err hg => .err (by rw [h.gl]; exact hg)
  | _, _, _, .mref hok hl => .mref (h.ok _ hok) fun blk' hb hs => by
      obtain ⟨blk, h1, h2, h3, _, _⟩ := h.live _ blk' hb (hs ▸ hok)
      rw [h3]; exact hl blk h1 (h2.trans hs)
  | _, _, _, .fn hv => .fn (hv.move h (.inr rfl))
theorem VRs.move {s s' : S} (h : Later s s') : ∀ {one : Bool} {cs : List AV} {vs : List Value}, (s'.m.B ≤ s.m.B ∨ one = true) → VRs s one cs vs → VRs s' one cs vs
  | _, _, _, _, .nil _ => .nil _
  | _, _, _, ht, .cons h1 hv hs => .cons h1 (hv.move h (ht.imp id fun e => (h1 e).2)) (hs.move h ht)
end

theorem VRs.later {s s' : S} (h : Later s s') {cs : List AV} {vs : List Value} (hv : VRs s true cs vs) : VRs s' true cs vs := hv.move h (.inr rfl)

/-! ## rows of values -/

theorem VRs.length {s : S} {one : Bool} {cs : List AV} {vs : List Value} (h : VRs s one cs vs) : cs.length = vs.length := by
  induction cs generalizing vs with
  | nil => cases h; rfl
  | cons c cs ih => cases h with | cons _ _ hs => simp [ih hs]

theorem VRs.get {s : S} {one : Bool} {cs : List AV} {vs : List Value} (h : VRs s one cs vs) {k : Nat} {c : AV} (hk : cs[k]? = some c) : ∃ v, vs[k]? = some v ∧ VR s c v ∧ (one = true → v.oneCell' = true ∧ c.top = true) := by
  induction cs generalizing vs k with
  | nil => simp at hk
  | cons c' cs ih =>
    cases h with
    | cons h1 hv hs =>
      cases k with
      | zero => simp at hk; subst hk; exact ⟨_, by simp, hv, h1⟩
      | succ k => simp at hk; obtain ⟨v, g1, g2⟩ := ih hs hk; exact ⟨v, by simpa using g1, g2⟩

theorem VRs.one {s : S} {cs : List AV} {vs : List Value} (h : VRs s true cs vs) : ∀ v ∈ vs, v.oneCell' = true := by
  induction cs generalizing vs with
  | nil => cases h; simp
  | cons c cs ih =>
    cases h with
    | cons h1 hv hs => intro v hm; cases hm with
      | head => exact (h1 rfl).1
      | tail _ hm => exact ih hs v hm

theorem VRs.append {s : S} {one : Bool} {cs ds : List AV} {vs us : List Value} (h : VRs s one cs vs) (k : VRs s one ds us) : VRs s one (cs ++ ds) (vs ++ us) := by
  induction cs generalizing vs with
  | nil => cases h; simpa using k
  | cons c cs ih => cases h with | cons h1 hv hs => exact .cons h1 hv (ih hs)

theorem VRs.drop {s : S} {one : Bool} {cs : List AV} {vs : List Value} (h : VRs s one cs vs) (n : Nat) : VRs s one (cs.drop n) (vs.drop n) := by
  induction n generalizing cs vs with
  | zero => simpa using h
  | succ n ih => cases h with
    | nil => simpa using VRs.nil one
    | cons _ _ hs => simpa using ih hs

theorem VRs.take {s : S} {one : Bool} {cs : List AV} {vs : List Value} (h : VRs s one cs vs) (n : Nat) : VRs s one (cs.take n) (vs.take n) := by
  induction n generalizing cs vs with
  | zero => simpa using VRs.nil one
  | succ n ih => cases h with
    | nil => simpa using VRs.nil one
    | cons h1 hv hs => simpa using VRs.cons h1 hv (ih hs)

theorem VRs.setR {s : S} {cs ds : List AV} {vs us : List Value} (h : VRs s true cs vs) (k : VRs s true ds us) (o : Nat) :
    VRs s true (Sim.setR cs o ds) (vs.take o ++ us ++ vs.drop (o + us.length)) := by
  unfold Sim.setR
  rw [k.length]
  exact ((h.take o).append k).append (h.drop _)

theorem VRs.map {s : S} {one : Bool} {α : Type} (f : α → AV) (g : α → Value) (l : List α) (h : ∀ x ∈ l, VR s (f x) (g x)) (h1 : one = true → ∀ x ∈ l, (g x).oneCell' = true ∧ (f x).top = true) :
    VRs s one (l.map f) (l.map g) := by
  induction l with
  | nil => exact .nil _
  | cons x l ih => exact .cons (fun e => h1 e x (by simp)) (h x (by simp)) (ih (fun y hy => h y (by simp [hy])) (fun e y hy => h1 e y (by simp [hy])))

theorem VR.pv {s : S} {c : AV} {v : Value} (h : VR s c v) (hp : c.plain = true) : PV c v := by
  cases h <;> first | rfl | exact ⟨_, rfl⟩ | (simp [AV.plain] at hp; done)

theorem PV.vr {c : AV} {v : Value} (h : PV c v) (s : S) : VR s c v ∧ v.oneCell' = true ∧ c.top = true := by
  cases c <;> simp only [PV] at h <;> first
    | (subst h; exact ⟨.bool _, rfl, rfl⟩) | (subst h; exact ⟨.int _ _, rfl, rfl⟩) | (subst h; exact ⟨.str _, rfl, rfl⟩) | (subst h; exact ⟨.nilp, rfl, rfl⟩)
    | (obtain ⟨a, rfl⟩ := h; exact ⟨.nsl, rfl, rfl⟩) | (subst h; exact ⟨.nilM, rfl, rfl⟩) | (subst h; exact ⟨.nilI, rfl, rfl⟩) | (subst h; exact ⟨.nilF, rfl, rfl⟩) | exact h.elim

theorem VRs.pvs {s : S} {one : Bool} {cs : List AV} {vs : List Value} (h : VRs s one cs vs) (hp : cs.all AV.plain = true) : PVs cs vs := by
  induction cs generalizing vs with
  | nil => cases h; exact .nil
  | cons c cs ih =>
    simp only [List.all_cons, Bool.and_eq_true] at hp
    cases h with | cons h1 hv hs => exact .cons (hv.pv hp.1) (ih hs hp.2)

theorem PVs.vrs {cs : List AV} {vs : List Value} (h : PVs cs vs) (s : S) (one : Bool) : VRs s one cs vs := by
  induction cs generalizing vs with
  | nil => cases h; exact .nil _
  | cons c cs ih => cases h with | cons hv hs => exact .cons (fun _ => (hv.vr s).2) (hv.vr s).1 (ih hs)

theorem VR.fsl_isl {s : S} {sz n : Nat} {cells : List AV} {x : Value} (h : VR s (.fsl sz n cells) x) : VR s (.isl sz n cells) x := by
  cases h with
  | fsl hB hb hsz hcap hlen hv hc hf =>
    rename_i cap b o vs cs e fr
    refine .isl (vs := vs) rfl hcap hlen (fun k u hk => ⟨by rw [block_cell hb]; exact hc k u hk, ?_⟩) ?_
    · have h1 := (List.getElem?_eq_some_iff.1 hk).1
      have h2 := hv.length
      have h3 : n * sz ≤ cap * sz := Nat.mul_le_mul_right _ hcap
      exact (hf (o + k) (by omega) (by omega)).2
    · exact hv.vrs s true
  | fslnil => exact .islnil

/-- A solid value's cells. -/
theorem VR.cells {s : S} {c : AV} {v : Value} (h : VR s c v) (hs : c.solid = true) : VRs s true c.cells v.cells.toList := by
  have h' := h
  cases h with
  | junk => simp [AV.solid] at hs
  | tup => simp [AV.solid] at hs
  | agg hv => simpa [AV.cells, Value.cells] using hv
  | msl hok hv hl =>
    rename_i site σ sz off len
    cases v <;> simp only [isSlice] at hv
    exact .cons (fun _ => ⟨rfl, rfl⟩) h' (.nil _)
  | fsl => exact .cons (fun _ => ⟨rfl, rfl⟩) h'.fsl_isl (.nil _)
  | fslnil => exact .cons (fun _ => ⟨rfl, rfl⟩) .islnil (.nil _)
  | _ => exact .cons (fun _ => ⟨rfl, rfl⟩) h' (.nil _)

/-! ## states -/

/-- Of an activation: the world at its beginning; which cells are lent to it. -/
structure Cx where
  w0 : World
  A : Nat → Nat → Prop
  np : Nat
  lb : Nat → Nat × Nat
  le : Nat → Nat
  bn : Nat → Nat → Prop
  gl : Nat → Option Value

/-- The package variables that hold an error: their cells, out of all that is an activation's or a caller's own. -/
def GlobC (c : Cx) : Prop := ∀ g v, c.gl g = some v → (c.w0.cell? ⟨g, 0, none⟩ = some v ∧ ¬ c.A g 0 ∧ ¬ c.bn g 0) ∧ ∀ T a, v = .iface T (.pointer (some a)) → ∃ cs e, c.w0.heap[a.block]? = some (.cells cs e (0, 0))

/-- Is a package variable an interface? -/
def errG (P : Program) (g : Nat) : Bool := match P.globals[g]? with
  | some x => match P.underlying x.type with
    | some (.interface _) => true
    | _ => false
  | none => false

/-- What the package variables hold that are errors: pointers of one type to one cell each, one each, none left out. -/
structure GlobP (P : Program) (gl : Nat → Option Value) : Prop where
  shape : ∀ g0 v0, gl g0 = some v0 → ∃ (T te : Nat) (i j : TypeInfo), P.underlying T = some (.pointer te) ∧ P.info? T = some i ∧ i.comparable = true ∧ P.info? te = some j ∧ j.size = 1 ∧ ∀ g v, gl g = some v → ∃ a, v = .iface T (.pointer (some a))
  inj : ∀ g g' v, gl g = some v → gl g' = some v → g = g'
  all : ∀ g, errG P g = true → ∃ v, gl g = some v

/-- The package variables, at a moment. -/
def GlobS (s : S) : Prop := ∀ g v, s.m.gl g = some v → (s.w.cell? ⟨g, 0, none⟩ = some v ∧ ¬ Held s g 0) ∧ ∀ T a, v = .iface T (.pointer (some a)) → ∃ cs e, s.w.heap[a.block]? = some (.cells cs e (0, 0))

/-- A block of one's own, in memory. -/
def CellsOK (c : Cx) (s : S) (k : Nat) (b : Blk) : Prop :=
  (b.cells = [] ∧ s.m.ext k = 0) ∨
  ∃ (cs : Array Value) (e : TypeId) (fr : Nat × Nat), s.w.heap[(s.m.base k).1]? = some (.cells cs e fr) ∧ (s.m.base k).2 + s.m.ext k ≤ cs.size ∧ b.cells.length ≤ s.m.ext k ∧ (c.np ≤ k → k < 1000000 → c.w0.heap.size ≤ (s.m.base k).1) ∧
    (∀ o, (s.m.base k).2 ≤ o → o < (s.m.base k).2 + s.m.ext k → ¬ (fr.1 ≤ o ∧ o < fr.2) ∧ (c.w0.heap.size ≤ (s.m.base k).1 ∨ c.A (s.m.base k).1 o)) ∧
    ∃ vs, VRs s true b.cells vs ∧ ∀ j v, vs[j]? = some v → cs[(s.m.base k).2 + j]? = some v

/-- A map of one's own, in memory. -/
def MapOK (c : Cx) (s : S) (k : Nat) (b : Blk) : Prop :=
  ∃ (ks vs : List AV) (es : Array MapEntry) (n : Nat), b.cells = [.mapd ks vs] ∧ s.w.heap[(s.m.base k).1]? = some (.map es n) ∧ (s.m.base k).2 = 0 ∧ s.m.ext k = 1 ∧
    (c.w0.heap.size ≤ (s.m.base k).1 ∨ c.A (s.m.base k).1 0) ∧ VRs s false ks (es.toList.map (·.key)) ∧ VRs s false vs (es.toList.map (·.val)) ∧ ks.all AV.top = true ∧ vs.all AV.top = true

def BlkOK (c : Cx) (s : S) (k : Nat) (b : Blk) : Prop :=
  okS s.tag s.next b.stamp ∧ (b.stamp = (s.tag, 0) → s.m.base k = c.lb k ∧ s.m.ext k = c.le k) ∧ (if isMapKey k then MapOK c s k b else CellsOK c s k b)

structure RelM (c : Cx) (nt : Nat) (st : St) (a : Act) (w : World) (m : Mp) : Prop where
  defers : a.defers = []
  size : a.tmps.size = nt
  next1 : 1 ≤ st.next
  mB : m.B = c.w0.heap.size ∧ (∀ b o, m.ban b o → b < c.w0.heap.size) ∧ m.ban = c.bn ∧ m.gl = c.gl ∧ GlobC c
  env : ∀ k v, aget k st.env = some v → VR ⟨w, st.heap, m, st.tag, st.next⟩ v (a.tmps.getD k undef)
  pres : Pres c.A c.w0 w
  blk : ∀ k b, aget k st.heap = some b → BlkOK c ⟨w, st.heap, m, st.tag, st.next⟩ k b
  apart : ∀ k j b b', k ≠ j → aget k st.heap = some b → aget j st.heap = some b' → (m.base k).1 = (m.base j).1 →
    ∀ o, ¬ ((m.base k).2 ≤ o ∧ o < (m.base k).2 + m.ext k ∧ (m.base j).2 ≤ o ∧ o < (m.base j).2 + m.ext j)

/-- The moment of a state. -/
abbrev At (st : St) (w : World) (m : Mp) : S := ⟨w, st.heap, m, st.tag, st.next⟩

theorem RelM.gp {P : Program} {c : Cx} {nt : Nat} {st : St} {a : Act} {w : World} {m : Mp} (h : RelM c nt st a w m) (hG : GlobP P c.gl) : GlobP P m.gl := by
  rw [h.mB.2.2.2.1]; exact hG

/-- What an activation knows of the package variables. -/
structure GlobK (P : Program) (K : Ann) (c : Cx) : Prop where
  gp : GlobP P c.gl
  rd : ∀ g, (aget (1000000000 + g) K.reads).isSome = true → errG P g = true

theorem GlobS.later {s s' : S} (hg : GlobS s) (h : Later s s') : GlobS s' := by
  intro g v hv
  rw [h.gl] at hv
  obtain ⟨⟨h1, h2⟩, h3⟩ := hg g v hv
  refine ⟨h.cell h1 h2, fun T a e => ?_⟩
  obtain ⟨cs, e', hb⟩ := h3 T a e
  obtain ⟨c', hb', _⟩ := h.pres.cells _ cs e' (0, 0) hb
  exact ⟨c', e', hb'⟩

theorem RelM.ownA {c : Cx} {nt : Nat} {st : St} {a : Act} {w : World} {m : Mp} (h : RelM c nt st a w m) {b o : Nat} (ho : Own (At st w m) b o) : c.w0.heap.size ≤ b ∨ c.A b o := by
  obtain ⟨k, blk, h1, h2, h3, h4⟩ := ho
  obtain ⟨_, _, h5⟩ := h.blk k blk h1
  simp only at h1 h2 h3 h4
  split at h5
  · obtain ⟨ks, vs, es, n, _, _, g3, g4, g5, _⟩ := h5
    simp only at g3 g4 g5
    rw [g3] at h3 h4
    rw [g4] at h4
    obtain rfl : o = 0 := by omega
    rw [← h2]; exact g5
  · rcases h5 with ⟨_, g⟩ | ⟨cs, e, fr, _, _, _, _, g5, _⟩
    · simp only at g
      rw [g] at h4; omega
    · rw [← h2]; exact (g5 o h3 h4).2

theorem RelM.globs {c : Cx} {nt : Nat} {st : St} {a : Act} {w : World} {m : Mp} (h : RelM c nt st a w m) : GlobS (At st w m) := by
  intro g v hg
  have hg' : c.gl g = some v := by rw [← h.mB.2.2.2.1]; exact hg
  obtain ⟨⟨h1, h2, h3⟩, h4⟩ := h.mB.2.2.2.2 g v hg'
  refine ⟨?_, fun T ad e => ?_⟩
  · obtain ⟨cs, e, fr, hb, ho⟩ := cell_block h1
    obtain ⟨c', hb', _, hk⟩ := h.pres.cells g cs e fr hb
    have hlt : g < c.w0.heap.size := (Array.getElem?_eq_some_iff.1 hb).1
    refine ⟨by show w.cell? _ = _; rw [block_cell hb', hk 0 h2, ho], fun hx => ?_⟩
    rcases hx with hx | hx
    · rcases h.ownA hx with q | q
      · omega
      · exact h2 q
    · exact h3 (by rw [← h.mB.2.2.1]; exact hx)
  · obtain ⟨cs, e', hb⟩ := h4 T ad e
    obtain ⟨c', hb', _, _⟩ := h.pres.cells _ cs e' (0, 0) hb
    exact ⟨c', e', hb'⟩

theorem ofScalar_ok (s : S) (v : Value) : VR s (ofScalar v) v := by
  unfold ofScalar
  split <;> first | exact .bool _ | exact .int _ _ | exact .str _ | exact .nilp | exact .nsl | exact .nilI | exact .nilF | exact .nilM | exact .junk _

theorem ofScalar_one (v : Value) (h : ofScalar v ≠ .junk) : v.oneCell' = true ∧ (ofScalar v).top = true := by
  unfold ofScalar at *
  split at h <;> first | exact ⟨rfl, rfl⟩ | exact (h rfl).elim

theorem ofCells_ok (s : S) : ∀ (l : List Value) (cs : List AV), ofCells l = some cs → VRs s true cs l
  | [], cs, h => by simp [ofCells] at h; subst h; exact .nil _
  | v :: l, cs, h => by
    have hv := ofScalar_ok s v
    have h1 := ofScalar_one v
    unfold ofCells at h
    generalize ofScalar v = x at *
    split at h
    · cases h
    · rename_i hx
      cases hl : ofCells l with
      | none => simp [hl] at h
      | some ds =>
        simp [hl] at h
        subst h
        exact .cons (fun _ => h1 (by simpa using hx)) hv (ofCells_ok s l ds hl)

theorem ofConst_ok (s : S) (v : Value) : VR s (ofConst v) v := by
  unfold ofConst
  split
  · rename_i cs
    split
    · rename_i l hl; exact .agg (vs := cs.toList) (ofCells_ok s _ _ hl)
    · exact .junk _
  · rename_i vs
    exact .tup (vs := vs.toList) (by
      have := VRs.map (s := s) (one := false) ofScalar id vs.toList (fun x _ => ofScalar_ok s x) (by simp)
      simpa using this)
  · exact ofScalar_ok s v

theorem operand_ok {c : Cx} {nt : Nat} {st : St} {a : Act} {w : World} {m : Mp} (h : RelM c nt st a w m) (x : Operand) : VR (At st w m) (operand st x) (a.eval x) := by
  cases x with
  | tmp t =>
    simp only [operand, Act.eval]
    cases ht : aget t st.env with
    | none => exact .junk _
    | some v => exact h.env t v ht
  | const v =>
    simp only [operand, Act.eval]
    exact ofConst_ok _ v
  | global g => exact .gref g
  | func f => exact .fn (vs := []) (.nil _)

/-! ## one block turns -/

def Mp.set (m : Mp) (k : Nat) (base : Nat × Nat) (ext : Nat) : Mp := { base := fun j => if j = k then base else m.base j, ext := fun j => if j = k then ext else m.ext j, B := m.B, ban := m.ban, gl := m.gl }

/-- The region of a site. -/
def In (st : St) (m : Mp) (k : Nat) (b o : Nat) : Prop := (∃ b0, aget k st.heap = some b0) ∧ (m.base k).1 = b ∧ (m.base k).2 ≤ o ∧ o < (m.base k).2 + m.ext k

structure Turn (st : St) (w : World) (m : Mp) (k : Nat) (b' : Blk) (n' : Nat) (w' : World) (base' : Nat × Nat) (ext' : Nat) : Prop where
  pres : Pres (In st m k) w w'
  next : st.next ≤ n'
  reg : ext' = 0 ∨ w.heap.size ≤ base'.1 ∨ ((∃ b0, aget k st.heap = some b0) ∧ base'.1 = (m.base k).1 ∧ (m.base k).2 ≤ base'.2 ∧ base'.2 + ext' ≤ (m.base k).2 + m.ext k)
  stamp : (∃ b0, aget k st.heap = some b0 ∧ b0.stamp = b'.stamp ∧ base' = m.base k ∧ ext' = m.ext k ∧ b0.cells.length = b'.cells.length) ∨ ¬ okS st.tag st.next b'.stamp

def turned (st : St) (k : Nat) (b' : Blk) (n' : Nat) : St := { st with heap := aput k b' st.heap, next := n' }

theorem In.own {st : St} {w : World} {m : Mp} {k b o : Nat} (h : In st m k b o) : Own (At st w m) b o :=
  let ⟨⟨b0, h0⟩, h1, h2, h3⟩ := h; ⟨k, b0, h0, h1, h2, h3⟩

theorem Turn.later {st : St} {w : World} {m : Mp} {k : Nat} {b' : Blk} {n' : Nat} {w' : World} {base' : Nat × Nat} {ext' : Nat} (h : Turn st w m k b' n' w' base' ext') :
    Later (At st w m) (At (turned st k b' n') w' (m.set k base' ext')) := by
  refine ⟨h.pres.mono fun b o _ hi => hi.own, fun b o hb ho => ?_, fun site blk' hs hok => ?_, fun σ hσ => okS_mono hσ h.next, fun b o _ hb => .inr hb, rfl⟩
  · obtain ⟨j, bj, hj, h1, h2, h3⟩ := ho
    simp only [turned, aget_aput, Mp.set] at hj h1 h2 h3
    by_cases e : k = j
    · subst e
      simp only [if_true] at h1 h2 h3
      rcases h.reg with hr | hr | ⟨⟨b0, hb0⟩, r1, r2, r3⟩
      · omega
      · simp only [] at hb; omega
      · exact ⟨k, b0, hb0, by simp only []; omega, by simp only []; omega, by simp only []; omega⟩
    · simp only [if_neg e, if_neg (Ne.symm e)] at hj h1 h2 h3
      exact ⟨j, bj, hj, h1, h2, h3⟩
  · simp only [turned, aget_aput] at hs
    by_cases e : k = site
    · subst e
      simp only [if_true, Option.some.injEq] at hs
      subst hs
      rcases h.stamp with ⟨b0, h0, h1, h2, h3, h4⟩ | hn
      · exact ⟨b0, h0, h1, by simp [Mp.set, h2], by simp [Mp.set, h3], h4⟩
      · exact (hn hok).elim
    · simp only [if_neg e] at hs
      exact ⟨blk', hs, rfl, by simp [Mp.set, Ne.symm e], by simp [Mp.set, Ne.symm e], rfl⟩

theorem BlkOK.lt {c : Cx} {s : S} {k : Nat} {b : Blk} (h : BlkOK c s k b) : s.m.ext k = 0 ∨ (s.m.base k).1 < s.w.heap.size := by
  obtain ⟨_, _, h⟩ := h
  split at h
  · obtain ⟨ks, vs, es, n, _, h, _⟩ := h
    exact .inr (Array.getElem?_eq_some_iff.1 h).1
  · rcases h with h | ⟨cs, e, fr, h, _⟩
    · exact .inl h.2
    · exact .inr (Array.getElem?_eq_some_iff.1 h).1

/-- A block's memory is new, or lent. -/
theorem BlkOK.mine {c : Cx} {s : S} {k : Nat} {b : Blk} (h : BlkOK c s k b) {o : Nat} (h1 : (s.m.base k).2 ≤ o) (h2 : o < (s.m.base k).2 + s.m.ext k) : c.w0.heap.size ≤ (s.m.base k).1 ∨ c.A (s.m.base k).1 o := by
  obtain ⟨_, _, h⟩ := h
  split at h
  · obtain ⟨ks, vs, es, n, _, _, g1, g2, g3, _⟩ := h
    have : o = 0 := by omega
    subst this
    exact g3
  · rcases h with h | ⟨cs, e, fr, _, _, _, _, g, _⟩
    · omega
    · exact (g o h1 h2).2

/-- A block has no more cells than there is memory. -/
theorem BlkOK.fits {c : Cx} {s : S} {k : Nat} {b : Blk} (h : BlkOK c s k b) : b.cells.length ≤ s.m.ext k := by
  obtain ⟨_, _, h⟩ := h
  split at h
  · obtain ⟨ks, vs, es, n, g0, _, g1, g2, g3, _⟩ := h
    rw [g0, g2]; exact Nat.le_refl _
  · rcases h with h | ⟨cs, e, fr, _, _, g, _⟩
    · rw [h.1]; exact Nat.zero_le _
    · exact g

/-- A block that is not touched stays. -/
theorem BlkOK.keep {c : Cx} {s s' : S} {k : Nat} {b : Blk} (h : BlkOK c s k b) (hl : Later s s') (htag : s'.tag = s.tag) (hbase : s'.m.base k = s.m.base k) (hext : s'.m.ext k = s.m.ext k) (hB : s'.m.B ≤ s.m.B)
    (hc : ∀ cs e fr, s.w.heap[(s.m.base k).1]? = some (.cells cs e fr) → ∃ cs', s'.w.heap[(s.m.base k).1]? = some (.cells cs' e fr) ∧ cs'.size = cs.size ∧
      ∀ o, (s.m.base k).2 ≤ o → o < (s.m.base k).2 + s.m.ext k → cs'[o]? = cs[o]?)
    (hm : ∀ es n, s.w.heap[(s.m.base k).1]? = some (.map es n) → (s.m.base k).2 = 0 → s.m.ext k = 1 → s'.w.heap[(s.m.base k).1]? = some (.map es n)) : BlkOK c s' k b := by
  obtain ⟨h1, h2, h3⟩ := h
  refine ⟨hl.ok _ h1, fun e => by rw [hbase, hext]; exact h2 (by rw [e, htag]), ?_⟩
  split
  · rename_i hk
    rw [if_pos hk] at h3
    obtain ⟨ks, vs, es, n, g1, g2, g3, g4, g5, g6, g7, g8, g9⟩ := h3
    refine ⟨ks, vs, es, n, g1, ?_, ?_, ?_, ?_, g6.move hl (.inl hB), g7.move hl (.inl hB), g8, g9⟩
    · rw [hbase]; exact hm es n g2 g3 g4
    · rw [hbase]; exact g3
    · rw [hext]; exact g4
    · rw [hbase]; exact g5
  rename_i hk
  rw [if_neg hk] at h3
  unfold CellsOK at *
  rw [hbase, hext]
  rcases h3 with h3 | ⟨cs, e, fr, g1, g2, g3, g4, g5, vs, g6, g7⟩
  · exact .inl h3
  · obtain ⟨cs', k1, k2, k3⟩ := hc cs e fr g1
    refine .inr ⟨cs', e, fr, k1, by omega, g3, g4, g5, vs, g6.later hl, fun j v hj => ?_⟩
    have hlt : j < vs.length := (List.getElem?_eq_some_iff.1 hj).1
    have := g6.length
    rw [k3 _ (by omega) (by omega)]
    exact g7 j v hj

theorem RelM.turn {c : Cx} {nt : Nat} {st : St} {a : Act} {w : World} {m : Mp} (h : RelM c nt st a w m) {k : Nat} {b' : Blk} {n' : Nat} {w' : World} {base' : Nat × Nat} {ext' : Nat}
    (ht : Turn st w m k b' n' w' base' ext') (hb : BlkOK c (At (turned st k b' n') w' (m.set k base' ext')) k b') : RelM c nt (turned st k b' n') a w' (m.set k base' ext') := by
  have hl := ht.later
  have other : ∀ j b, j ≠ k → aget j (turned st k b' n').heap = some b → aget j st.heap = some b := fun j b hj hb => by
    simpa only [turned, aget_aput, if_neg (Ne.symm hj)] using hb
  have mb : ∀ j, j ≠ k → (m.set k base' ext').base j = m.base j ∧ (m.set k base' ext').ext j = m.ext j := fun j hj => by simp [Mp.set, hj]
  have mk : (m.set k base' ext').base k = base' ∧ (m.set k base' ext').ext k = ext' := by simp [Mp.set]
  refine ⟨h.defers, h.size, Nat.le_trans h.next1 ht.next, h.mB, fun j v hj => (h.env j v hj).move hl (.inl (Nat.le_refl _)), ?_, fun j b hj => ?_, fun i j bi bj hij hi hj => ?_⟩
  · refine h.pres.trans ht.pres (fun b o _ x => x) (fun b o hlt x => ?_)
    obtain ⟨⟨b0, h0⟩, x1, x2, x3⟩ := x
    rcases (h.blk k b0 h0).mine x2 x3 with y | y
    · simp only [] at y; omega
    · exact x1 ▸ y
  · by_cases e : j = k
    · subst e
      simp only [turned, aget_aput, if_true, Option.some.injEq] at hj
      subst hj; exact hb
    · have hj' := other j b e hj
      refine (h.blk j b hj').keep hl rfl (mb j e).1 (mb j e).2 (Nat.le_refl _) (fun cs ty fr hc => ?_) fun es n hm g1 g2 => ?_
      · obtain ⟨cs', k1, k2, k3⟩ := ht.pres.cells _ cs ty fr hc
        refine ⟨cs', k1, k2, fun o o1 o2 => k3 o fun hin => ?_⟩
        obtain ⟨⟨b0, h0⟩, x1, x2, x3⟩ := hin
        exact h.apart k j b0 b (Ne.symm e) h0 hj' x1 o ⟨x2, x3, o1, o2⟩
      · refine ht.pres.other _ _ hm (by intros; simp) fun hin => ?_
        obtain ⟨⟨b0, h0⟩, x1, x2, x3⟩ := hin
        simp only at g1 g2
        exact h.apart k j b0 b (Ne.symm e) h0 hj' x1 0 ⟨x2, x3, by omega, by omega⟩
  · -- apart
    have key : ∀ j bj, j ≠ k → aget j st.heap = some bj → base'.1 = (m.base j).1 → ∀ o, ¬ (base'.2 ≤ o ∧ o < base'.2 + ext' ∧ (m.base j).2 ≤ o ∧ o < (m.base j).2 + m.ext j) := by
      intro j bj hjk hj e o ho
      rcases ht.reg with hr | hr | ⟨⟨b0, hb0⟩, r1, r2, r3⟩
      · omega
      · rcases (h.blk j bj hj).lt with g | g <;> simp only [] at g <;> omega
      · exact h.apart k j b0 bj (Ne.symm hjk) hb0 hj (r1 ▸ e) o ⟨by omega, by omega, ho.2.2.1, ho.2.2.2⟩
    by_cases ei : i = k
    · subst ei
      have hj' := other j bj (Ne.symm hij) hj
      rw [mk.1, mk.2, (mb j (Ne.symm hij)).1, (mb j (Ne.symm hij)).2]
      exact fun e o ho => key j bj (Ne.symm hij) hj' e o ho
    · by_cases ej : j = k
      · subst ej
        have hi' := other i bi ei hi
        rw [mk.1, mk.2, (mb i ei).1, (mb i ei).2]
        exact fun e o ho => key i bi ei hi' e.symm o ⟨ho.2.2.1, ho.2.2.2, ho.1, ho.2.1⟩
      · rw [(mb i ei).1, (mb i ei).2, (mb j ej).1, (mb j ej).2]
        exact h.apart i j bi bj hij (other i bi ei hi) (other j bj ej hj)

/-- A slot is written. -/
theorem RelM.put {c : Cx} {nt : Nat} {st : St} {a : Act} {w : World} {m : Mp} (h : RelM c nt st a w m) {d : Option Nat} (hd : d.getD 0 < nt) {v : AV} {x : Value} (hv : VR (At st w m) v x) :
    RelM c nt (putD st d v) (a.put d x) w m := by
  cases d with
  | none => exact h
  | some d =>
    refine ⟨h.defers, by simp [Act.put, h.size], h.next1, h.mB, fun k u hk => ?_, h.pres, h.blk, h.apart⟩
    simp only [putD, aget_aput] at hk
    simp only [Act.put]
    by_cases e : d = k
    · subst e
      simp only [if_true, Option.some.injEq] at hk
      subst hk
      have hlt : d < a.tmps.size := by rw [h.size]; exact hd
      rw [Array.getD_eq_getD_getElem?, Array.getElem?_setIfInBounds]
      simp only [hlt, if_true, Option.getD_some]
      exact hv
    · simp only [if_neg e] at hk
      have := h.env k u hk
      rw [Array.getD_eq_getD_getElem?, Array.getElem?_setIfInBounds_ne e, ← Array.getD_eq_getD_getElem?]
      exact this

end Go.Sim
