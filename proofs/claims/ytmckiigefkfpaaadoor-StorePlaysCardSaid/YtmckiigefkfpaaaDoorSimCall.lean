/- The interpreter's calls are the model's: what a callee is given, what it gives back. -/
import Derived.Test.YtmckiigefkfpaaaDoorSimOp
set_option linter.unusedVariables false
set_option linter.unusedSimpArgs false
namespace Go.Sim
open Go

/-! ## results -/

abbrev Reg := Nat × Nat × Nat

def InR (r : Reg) (b o : Nat) : Prop := r.1 = b ∧ r.2.1 ≤ o ∧ o < r.2.1 + r.2.2

def Apart (rs : List Reg) : Prop := rs.Pairwise fun r r' => ∀ b o, ¬ (InR r b o ∧ InR r' b o)

/-- A row in new memory (from block B on) that nobody else holds. -/
structure RowAt (w : World) (B sz n cap b o : Nat) (cells : List AV) (vs : List Value) (cs : Array Value) (e : TypeId) (fr : Nat × Nat) : Prop where
  hB : B ≤ b
  hb : w.heap[b]? = some (.cells cs e fr)
  hsz : o + cap * sz ≤ cs.size
  hcap : n ≤ cap
  hlen : cells.length = n * sz
  hv : PVs cells vs
  hc : ∀ (j : Nat) (v : Value), vs[j]? = some v → cs[o + j]? = some v
  hf : ∀ k, o ≤ k → k < o + cap * sz → ¬ (fr.1 ≤ k ∧ k < fr.2)

/-- A result's cell. -/
inductive RC (w : World) (B : Nat) : AV → Value → List Reg → Prop
  | plain {c : AV} {v : Value} (h : PV c v) : RC w B c v []
  | isl {sz n cap b o : Nat} {cells : List AV} {vs : List Value} {cs : Array Value} {e : TypeId} {fr : Nat × Nat} (h : RowAt w B sz n cap b o cells vs cs e fr) :
      RC w B (.isl sz n cells) (.slice (some ⟨b, o, none⟩) n cap) [(b, o, cap * sz)]
  | islnil {sz : Nat} {a : Option Addr} : RC w B (.isl sz 0 []) (.slice a 0 0) []

inductive RCs (w : World) (B : Nat) : List AV → List Value → List Reg → Prop
  | nil : RCs w B [] [] []
  | cons {c : AV} {v : Value} {cs : List AV} {vs : List Value} {r rs : List Reg} (h : RC w B c v r) (hs : RCs w B cs vs rs) : RCs w B (c :: cs) (v :: vs) (r ++ rs)

/-- A result. -/
inductive Res1 (w : World) (B : Nat) : AV → Value → List Reg → Prop
  | plain {c : AV} {v : Value} (h : PV c v) : Res1 w B c v []
  | fsl {sz n cap b o : Nat} {cells : List AV} {vs : List Value} {cs : Array Value} {e : TypeId} {fr : Nat × Nat} (h : RowAt w B sz n cap b o cells vs cs e fr) :
      Res1 w B (.fsl sz n cells) (.slice (some ⟨b, o, none⟩) n cap) [(b, o, cap * sz)]
  | fslnil {sz : Nat} {a : Option Addr} : Res1 w B (.fsl sz 0 []) (.slice a 0 0) []
  | agg {cs : List AV} {vs : List Value} {rs : List Reg} (h : RCs w B cs vs rs) : Res1 w B (.agg cs) (.agg vs.toArray) rs

inductive Res1s (w : World) (B : Nat) : List AV → List Value → List Reg → Prop
  | nil : Res1s w B [] [] []
  | cons {c : AV} {v : Value} {cs : List AV} {vs : List Value} {r rs : List Reg} (h : Res1 w B c v r) (hs : Res1s w B cs vs rs) : Res1s w B (c :: cs) (v :: vs) (r ++ rs)

inductive Res (w : World) (B : Nat) : AV → Value → List Reg → Prop
  | one {c : AV} {v : Value} {rs : List Reg} (h : Res1 w B c v rs) : Res w B c v rs
  | tup {cs : List AV} {vs : List Value} {rs : List Reg} (h : Res1s w B cs vs rs) : Res w B (.tup cs) (.tuple vs.toArray) rs

section
variable {w : World} {B : Nat} {s : S}

theorem RC.vr (hw : s.w = w) {c : AV} {v : Value} {rs : List Reg} (h : RC w B c v rs) (hn : ∀ r ∈ rs, ∀ b o, InR r b o → ¬ Held s b o) : VR s c v ∧ v.oneCell' = true ∧ c.top = true := by
  cases h with
  | plain h => exact h.vr s
  | islnil => exact ⟨.islnil, rfl, rfl⟩
  | isl h =>
    rename_i sz n cap b o cells vs cs e fr
    refine ⟨.isl (vs := vs) rfl h.hcap h.hlen (fun k u hk => ⟨?_, ?_⟩) (h.hv.vrs s true), rfl, rfl⟩
    · rw [hw, block_cell h.hb]; exact h.hc k u hk
    · have h1 := (List.getElem?_eq_some_iff.1 hk).1
      have h2 := h.hv.length
      have h3 : n * sz ≤ cap * sz := Nat.mul_le_mul_right _ h.hcap
      have h4 := h.hlen
      exact hn (b, o, cap * sz) (List.mem_singleton.2 rfl) b (o + k) ⟨rfl, Nat.le_add_right _ _, by simp only; omega⟩

theorem RCs.vr (hw : s.w = w) {cs : List AV} {vs : List Value} {rs : List Reg} (h : RCs w B cs vs rs) (hn : ∀ r ∈ rs, ∀ b o, InR r b o → ¬ Held s b o) : VRs s true cs vs := by
  induction h with
  | nil => exact .nil _
  | cons h hs ih =>
    have := h.vr hw (fun r hr => hn r (by simp [hr]))
    exact .cons (fun _ => this.2) this.1 (ih fun r hr => hn r (by simp [hr]))

theorem Res1.vr (hw : s.w = w) (hB : s.m.B ≤ B) {c : AV} {v : Value} {rs : List Reg} (h : Res1 w B c v rs) (hn : ∀ r ∈ rs, ∀ b o, InR r b o → ¬ Held s b o) : VR s c v := by
  cases h with
  | plain h => exact (h.vr s).1
  | fslnil => exact .fslnil
  | fsl h =>
    exact .fsl (Nat.le_trans hB h.hB) (hw ▸ h.hb) h.hsz h.hcap h.hlen h.hv h.hc (fun k k1 k2 => ⟨h.hf k k1 k2, hn _ (List.mem_singleton.2 rfl) _ k ⟨rfl, k1, k2⟩⟩)
  | agg h => exact .agg (h.vr hw hn)

theorem Res1s.vr (hw : s.w = w) (hB : s.m.B ≤ B) {cs : List AV} {vs : List Value} {rs : List Reg} (h : Res1s w B cs vs rs) (hn : ∀ r ∈ rs, ∀ b o, InR r b o → ¬ Held s b o) : VRs s false cs vs := by
  induction h with
  | nil => exact .nil _
  | cons h hs ih => exact .cons (fun e => by cases e) (h.vr hw hB fun r hr => hn r (by simp [hr])) (ih fun r hr => hn r (by simp [hr]))

theorem Res.vr (hw : s.w = w) (hB : s.m.B ≤ B) {c : AV} {v : Value} {rs : List Reg} (h : Res w B c v rs) (hn : ∀ r ∈ rs, ∀ b o, InR r b o → ¬ Held s b o) : VR s c v := by
  cases h with
  | one h => exact h.vr hw hB hn
  | tup h => exact .tup (h.vr hw hB hn)

theorem RC.new {c : AV} {v : Value} {rs : List Reg} (h : RC w B c v rs) : ∀ r ∈ rs, B ≤ r.1 := by
  cases h <;> simp
  rename_i h; exact h.hB

theorem RCs.new {cs : List AV} {vs : List Value} {rs : List Reg} (h : RCs w B cs vs rs) : ∀ r ∈ rs, B ≤ r.1 := by
  induction h with
  | nil => simp
  | cons h hs ih => intro r hr; exact (List.mem_append.1 hr).elim (fun x => h.new r x) (fun x => ih r x)

theorem Res1.new {c : AV} {v : Value} {rs : List Reg} (h : Res1 w B c v rs) : ∀ r ∈ rs, B ≤ r.1 := by
  cases h with
  | plain => simp
  | fslnil => simp
  | fsl h => simp; exact h.hB
  | agg h => exact h.new

theorem Res1s.new {cs : List AV} {vs : List Value} {rs : List Reg} (h : Res1s w B cs vs rs) : ∀ r ∈ rs, B ≤ r.1 := by
  induction h with
  | nil => simp
  | cons h hs ih => intro r hr; exact (List.mem_append.1 hr).elim (fun x => h.new r x) (fun x => ih r x)

theorem Res.new {c : AV} {v : Value} {rs : List Reg} (h : Res w B c v rs) : ∀ r ∈ rs, B ≤ r.1 := by
  cases h with
  | one h => exact h.new
  | tup h => exact h.new
end

/-! ## what a callee is promised, what it promises -/

structure CallPre (w : World) (tag : Nat) (args : List AV) (lent : List (Option (List AV))) (vs : List Value) (m : Mp) : Prop where
  mB : m.B = w.heap.size ∧ ∀ b o, m.ban b o → b < w.heap.size
  glob : GlobS ⟨w, lentHeap tag 0 lent, m, tag, 1⟩
  args : VRs ⟨w, lentHeap tag 0 lent, m, tag, 1⟩ false args vs
  blk : ∀ k b, aget k (lentHeap tag 0 lent) = some b → m.ext k = b.cells.length ∧ (b.cells = [] ∨
    ∃ (cs : Array Value) (e : TypeId) (fr : Nat × Nat), w.heap[(m.base k).1]? = some (.cells cs e fr) ∧ (m.base k).2 + m.ext k ≤ cs.size ∧
    (∀ o, (m.base k).2 ≤ o → o < (m.base k).2 + m.ext k → ¬ (fr.1 ≤ o ∧ o < fr.2)) ∧
    ∃ us, VRs ⟨w, lentHeap tag 0 lent, m, tag, 1⟩ true b.cells us ∧ ∀ (j : Nat) (v : Value), us[j]? = some v → cs[(m.base k).2 + j]? = some v)
  apart : ∀ k j b b', k ≠ j → aget k (lentHeap tag 0 lent) = some b → aget j (lentHeap tag 0 lent) = some b' → (m.base k).1 = (m.base j).1 →
    ∀ o, ¬ ((m.base k).2 ≤ o ∧ o < (m.base k).2 + m.ext k ∧ (m.base j).2 ≤ o ∧ o < (m.base j).2 + m.ext j)

structure CallPost (w w' : World) (tag : Nat) (lent lent' : List (Option (List AV))) (m : Mp) (r : AV) (x : Value) : Prop where
  pres : Pres (Own ⟨w, lentHeap tag 0 lent, m, tag, 1⟩) w w'
  res : ∃ rs, Res w' w.heap.size r x rs ∧ Apart rs
  len : lent'.length = lent.length
  none : ∀ k : Nat, lent[k]? = some none → lent'[k]? = some none
  back : ∀ (k : Nat) (old : List AV), lent[k]? = some (some old) → ∃ new us, lent'[k]? = some (some new) ∧ new.length = old.length ∧ PVs new us ∧
    ∀ (j : Nat) (v : Value), us[j]? = some v → w'.cell? ⟨(m.base k).1, (m.base k).2 + j, Option.none⟩ = some v

/-- A function is carried out: entered, or answered at once. -/
def Invokes (P : Program) (f : Nat) (args : Array Value) (w : World) (R : Value → World → Prop) : Prop :=
  ((callFunc f args).run P w = .ok (.enter f args) w ∧ Calls P f args w fun e w' => ∃ x, e = .returned x ∧ R x w') ∨
  (∃ x w', (callFunc f args).run P w = .ok (.value x) w' ∧ R x w') ∨
  (∃ row, (callFunc f args).run P w = .ok (.row row args) w ∧ Go.Rows P row args w R)

def CallOK (P : Program) (f : Nat) (tag : Nat) (args : List AV) (lent : List (Option (List AV))) (r : AV) (lent' : List (Option (List AV))) : Prop :=
  ∀ (w : World) (vs : List Value) (m : Mp), CallPre w tag args lent vs m → GlobP P m.gl → Invokes P f vs.toArray w fun x w' => CallPost w w' tag lent lent' m r x


/-! ## the caller's side: what is handed over -/

theorem aget_lentHeap (tag : Nat) (k : Nat) : ∀ (j : Nat) (lent : List (Option (List AV))),
    aget k (lentHeap tag j lent) = if j ≤ k then (match lent[k - j]? with | some (some cells) => some ⟨(tag, 0), cells⟩ | _ => none) else none
  | j, [] => by simp [lentHeap, aget]
  | j, none :: l => by
    simp only [lentHeap, aget_lentHeap tag k (j + 1) l]
    by_cases h : j + 1 ≤ k
    · rw [if_pos h, if_pos (by omega), show k - j = (k - (j + 1)) + 1 from by omega]
      simp
    · rw [if_neg h]
      by_cases h2 : j ≤ k
      · rw [if_pos h2, show k - j = 0 from by omega]; simp
      · rw [if_neg h2]
  | j, some cells :: l => by
    simp only [lentHeap, aget, aget_lentHeap tag k (j + 1) l]
    by_cases e : j = k
    · subst e; simp
    · rw [if_neg e]
      by_cases h : j + 1 ≤ k
      · rw [if_pos h, if_pos (by omega), show k - j = (k - (j + 1)) + 1 from by omega]
        simp
      · rw [if_neg h, if_neg (by omega)]

/-- How an argument is lent. -/
inductive LendOK (st : St) (k : Nat) : AV → (AV × Option (List AV) × Option (Nat × Nat × Nat)) → Prop
  | ref {s : Nat} {g : Nat × Nat} {o n : Nat} {cells : List AV} (hb : blkOf st s g = some cells) (hle : o + n ≤ cells.length) :
      LendOK st k (.ref s g o) (.ref k (st.tag + 1, 0) 0, some ((cells.drop o).take n), some (s, o, n))
  | msl {s : Nat} {g : Nat × Nat} {z o n : Nat} {cells : List AV} (hb : blkOf st s g = some cells) (hle : o + n * z ≤ cells.length) :
      LendOK st k (.msl s g z o n) (.isl z n ((cells.drop o).take (n * z)), none, none)
  | fsl {z n : Nat} {cells : List AV} : LendOK st k (.fsl z n cells) (.isl z n cells, none, none)
  | other {v : AV} (ht : v.top = true) : LendOK st k v (v, none, none)

theorem lend_ok {L : Nat → Option TI} {st : St} {k : Nat} {v : AV} {t : Option Nat} {p : AV × Option (List AV) × Option (Nat × Nat × Nat)} (h : lend L st k v t = some p) : LendOK st k v p := by
  unfold lend at h
  split at h
  · rename_i s g o
    cases hb : blkOf st s g with
    | none => simp [hb] at h
    | some cells =>
      simp only [hb, Option.bind_eq_bind, Option.bind_some] at h
      cases hn : lendSize L (cells.length - o) t with
      | none => simp [hn] at h
      | some n =>
        simp only [hn, Option.bind_some] at h
        split at h
        · rename_i hle
          simp only [Option.some.injEq] at h
          subst h
          exact .ref hb hle
        · cases h
  · rename_i s g z o n
    cases hb : blkOf st s g with
    | none => simp [hb] at h
    | some cells =>
      simp only [hb, Option.bind_eq_bind, Option.bind_some] at h
      split at h
      · rename_i hle
        simp only [Option.some.injEq] at h
        subst h
        exact .msl hb hle
      · cases h
  · simp only [Option.some.injEq] at h
    subst h
    exact .fsl
  · cases h
  · cases h
  · rename_i h1 h2 h3 h4 h5
    simp only [Option.some.injEq] at h
    subst h
    refine .other ?_
    cases v <;> first | rfl | exact (h3 _ _ _ rfl).elim | exact (h4 _ rfl).elim | exact (h5 _ _ rfl).elim

theorem lendAll_ok {L : Nat → Option TI} {st : St} : ∀ {j : Nat} {vs : List AV} {ts : List Nat} {l : List (AV × Option (List AV) × Option (Nat × Nat × Nat))}, lendAll L st j vs ts = some l →
    l.length = vs.length ∧ ∀ i v p, vs[i]? = some v → l[i]? = some p → LendOK st (j + i) v p
  | j, [], ts, l, h => by simp [lendAll] at h; subst h; exact ⟨rfl, fun i v p h => by simp at h⟩
  | j, v :: vs, ts, l, h => by
    unfold lendAll at h
    cases h1 : lend L st j v ts.head? with
    | none => simp only [h1, Option.bind_eq_bind, Option.bind_none] at h; cases h
    | some x =>
      cases h2 : lendAll L st (j + 1) vs (ts.drop 1) with
      | none => simp only [h1, h2, Option.bind_eq_bind, Option.bind_some, Option.bind_none] at h; cases h
      | some xs =>
        simp only [h1, h2, Option.bind_eq_bind, Option.bind_some, Option.some.injEq] at h
        subst h
        obtain ⟨g1, g2⟩ := lendAll_ok h2
        refine ⟨by simp [g1], fun i u p hu hp => ?_⟩
        cases i with
        | zero => simp at hu hp; subst hu hp; simpa using lend_ok h1
        | succ i => simp at hu hp; have := g2 i u p hu hp; rwa [show j + 1 + i = j + (i + 1) from by omega] at this

theorem lentFree_ok {s : Nat} : ∀ {l : List (Option (Nat × Nat × Nat))}, lentFree s l = true → ∀ (k s' o n : Nat), l[k]? = some (some (s', o, n)) → s' ≠ s
  | [], _, k, s', o, n, h => by simp at h
  | none :: l, hf, k, s', o, n, h => by
    cases k with
    | zero => simp at h
    | succ k => exact lentFree_ok (l := l) hf k s' o n (by simpa using h)
  | some (a, b, c) :: l, hf, k, s', o, n, h => by
    simp only [lentFree, Bool.and_eq_true, bne_iff_ne] at hf
    cases k with
    | zero => simp at h; rw [← h.1]; exact hf.1
    | succ k => exact lentFree_ok (l := l) hf.2 k s' o n (by simpa using h)

theorem lentApart_ok : ∀ {l : List (Option (Nat × Nat × Nat))}, lentApart l = true → ∀ (i j s o n s' o' n' : Nat), i ≠ j → l[i]? = some (some (s, o, n)) → l[j]? = some (some (s', o', n')) → s ≠ s'
  | [], _, i, j, _, _, _, _, _, _, _, h, _ => by simp at h
  | none :: l, hf, i, j, s, o, n, s', o', n', hij, h, h' => by
    cases i with
    | zero => simp at h
    | succ i => cases j with
      | zero => simp at h'
      | succ j => exact lentApart_ok (l := l) hf i j s o n s' o' n' (by omega) (by simpa using h) (by simpa using h')
  | some (a, b, c) :: l, hf, i, j, s, o, n, s', o', n', hij, h, h' => by
    simp only [lentApart, Bool.and_eq_true] at hf
    cases i with
    | zero =>
      cases j with
      | zero => exact (hij rfl).elim
      | succ j => simp at h; rw [← h.1]; exact (lentFree_ok hf.1 j s' o' n' (by simpa using h')).symm
    | succ i =>
      cases j with
      | zero => simp at h'; rw [← h'.1]; exact lentFree_ok hf.1 i s o n (by simpa using h)
      | succ j => exact lentApart_ok hf.2 i j s o n s' o' n' (by omega) (by simpa using h) (by simpa using h')

theorem readFree_ok {pl : List (Option (Nat × Nat × Nat))} : ∀ {vs : List AV}, readFree pl vs = true → ∀ (i s : Nat) (g : Nat × Nat) (z o n : Nat), vs[i]? = some (.msl s g z o n) → lentFree s pl = true
  | [], _, i, s, g, z, o, n, h => by simp at h
  | v :: vs, hf, i, s, g, z, o, n, h => by
    cases i with
    | zero =>
      simp at h
      subst h
      simp only [readFree, Bool.and_eq_true] at hf
      exact hf.1
    | succ i =>
      refine readFree_ok (vs := vs) ?_ i s g z o n (by simpa using h)
      unfold readFree at hf
      split at hf
      · rename_i e; cases e
      · rename_i e; cases e; simp only [Bool.and_eq_true] at hf; exact hf.2
      · rename_i e; cases e; exact hf

/-- Where what is lent lies. -/
def mpOf (B : Nat) (m : Mp) (pl : List (Option (Nat × Nat × Nat))) : Mp :=
  { base := fun k => match pl[k]? with | some (some (s, o, _)) => ((m.base s).1, (m.base s).2 + o) | _ => (0, 0)
    ext := fun k => match pl[k]? with | some (some (_, _, n)) => n | _ => 0
    B := B
    ban := fun _ _ => False
    gl := m.gl }

theorem okS_lent {tag : Nat} {n : Nat} : ¬ okS tag n (tag + 1, 0) := by simp [okS]

section
variable {P : Program} {c : Cx} {nt : Nat} {st : St} {a : Act} {w : World} {m : Mp}

theorem region_ext (h : RelM c nt st a w m) {k : Nat} {blk : Blk} (hb : aget k st.heap = some blk) : blk.cells.length ≤ m.ext k := by
  exact (h.blk k blk hb).fits

/-- What is known of the places that are lent. -/
structure Lent (st : St) (w : World) (m : Mp) (avs : List AV) (l : List (AV × Option (List AV) × Option (Nat × Nat × Nat))) : Prop where
  len : l.length = avs.length
  each : ∀ i v p, avs[i]? = some v → l[i]? = some p → LendOK st i v p
  apart : lentApart (l.map (·.2.2)) = true
  free : readFree (l.map (·.2.2)) avs = true

theorem Lent.place {avs : List AV} {l : List (AV × Option (List AV) × Option (Nat × Nat × Nat))} (H : Lent st w m avs l) {k : Nat} {cells : List AV}
    (hk : (l.map (·.2.1))[k]? = some (some cells)) : ∃ (s : Nat) (g : Nat × Nat) (o n : Nat) (blk : Blk), avs[k]? = some (.ref s g o) ∧ (l.map (·.2.2))[k]? = some (some (s, o, n)) ∧ aget s st.heap = some blk ∧ blk.stamp = g ∧
      o + n ≤ blk.cells.length ∧ cells = (blk.cells.drop o).take n ∧ cells.length = n := by
  rw [List.getElem?_map] at hk
  cases hp : l[k]? with
  | none => simp [hp] at hk
  | some p =>
    have hlt : k < avs.length := by rw [← H.len]; exact (List.getElem?_eq_some_iff.1 hp).1
    have hL := H.each k avs[k] p (List.getElem?_eq_getElem hlt) hp
    simp only [hp, Option.map_some, Option.some.injEq] at hk
    generalize hv : avs[k] = v at hL
    cases hL with
    | ref hb hle =>
      rename_i s g o n cs
      obtain ⟨blk, b1, b2, rfl⟩ := blkOf_some hb
      simp only [Option.some.injEq] at hk
      exact ⟨s, g, o, n, blk, by rw [List.getElem?_eq_getElem hlt, hv], by simp [List.getElem?_map, hp], b1, b2, hle, hk.symm, by rw [← hk]; simp; omega⟩
    | msl => cases hk
    | fsl => cases hk
    | other => cases hk

theorem Lent.key {avs : List AV} {l : List (AV × Option (List AV) × Option (Nat × Nat × Nat))} (H : Lent st w m avs l) {k s o n : Nat} (hk : (l.map (·.2.2))[k]? = some (some (s, o, n))) : isMapKey s = false := by
  rw [List.getElem?_map] at hk
  cases hp : l[k]? with
  | none => simp [hp] at hk
  | some p =>
    have hlt : k < avs.length := by rw [← H.len]; exact (List.getElem?_eq_some_iff.1 hp).1
    have hL := H.each k avs[k] p (List.getElem?_eq_getElem hlt) hp
    simp only [hp, Option.map_some, Option.some.injEq] at hk
    generalize avs[k] = v at hL
    cases hL with
    | ref hb hle =>
      simp only [Option.some.injEq, Prod.mk.injEq] at hk
      rw [← hk.1]; exact blkOf_key hb
    | msl => cases hk
    | fsl => cases hk
    | other => cases hk

theorem Lent.own (h : RelM c nt st a w m) {avs : List AV} {l : List (AV × Option (List AV) × Option (Nat × Nat × Nat))} (H : Lent st w m avs l) {tag : Nat} {b o : Nat}
    (ho : Own ⟨w, lentHeap tag 0 (l.map (·.2.1)), mpOf w.heap.size m (l.map (·.2.2)), tag, 1⟩ b o) :
    ∃ (k s off n : Nat) (blk : Blk), (l.map (·.2.2))[k]? = some (some (s, off, n)) ∧ aget s st.heap = some blk ∧ off + n ≤ blk.cells.length ∧ (m.base s).1 = b ∧ (m.base s).2 + off ≤ o ∧ o < (m.base s).2 + off + n := by
  obtain ⟨k, blk, hk, h1, h2, h3⟩ := ho
  simp only [aget_lentHeap, Nat.zero_le, if_true, Nat.sub_zero] at hk
  cases hl : (l.map (·.2.1))[k]? with
  | none => rw [hl] at hk; cases hk
  | some oc =>
    cases oc with
    | none => rw [hl] at hk; cases hk
    | some cells =>
      obtain ⟨s, g, off, n, blk', g1, g2, g3, g4, g5, g6, g7⟩ := H.place hl
      simp only [mpOf, g2] at h1 h2 h3
      exact ⟨k, s, off, n, blk', g2, g3, g5, h1, h2, h3⟩

theorem Lent.later (h : RelM c nt st a w m) {avs : List AV} {l : List (AV × Option (List AV) × Option (Nat × Nat × Nat))} (H : Lent st w m avs l) :
    Later (At st w m) ⟨w, lentHeap (st.tag + 1) 0 (l.map (·.2.1)), mpOf w.heap.size m (l.map (·.2.2)), st.tag + 1, 1⟩ := by
  refine ⟨Pres.refl _ _, fun b o _ ho => ?_, fun site blk' hs hok => ?_, fun σ hσ => okS_call 1 hσ, fun _ _ _ hb => hb.elim, rfl⟩
  · obtain ⟨k, s, off, n, blk, g1, g2, g3, g4, g5, g6⟩ := H.own h ho
    have := region_ext h g2
    exact ⟨s, blk, g2, g4, by simp only []; omega, by simp only []; omega⟩
  · simp only [aget_lentHeap, Nat.zero_le, if_true, Nat.sub_zero] at hs
    split at hs
    · simp only [Option.some.injEq] at hs
      subst hs
      exact (okS_lent hok).elim
    · cases hs

theorem Lent.pre (h : RelM c nt st a w m) {avs : List AV} {l : List (AV × Option (List AV) × Option (Nat × Nat × Nat))} (H : Lent st w m avs l) {xs : List Value} (hx : VRs (At st w m) false avs xs) :
    CallPre w (st.tag + 1) (l.map (·.1)) (l.map (·.2.1)) xs (mpOf w.heap.size m (l.map (·.2.2))) := by
  have hl := H.later h
  refine ⟨⟨rfl, fun _ _ hb => hb.elim⟩, h.globs.later hl, ?_, fun k b hb => ?_, fun k j b b' hkj hk hj heq o ho => ?_⟩
  · -- the arguments
    have key : ∀ (n i : Nat), i + n = avs.length → VRs ⟨w, lentHeap (st.tag + 1) 0 (l.map (·.2.1)), mpOf w.heap.size m (l.map (·.2.2)), st.tag + 1, 1⟩ false ((l.map (·.1)).drop i) (xs.drop i) := by
      have lx := hx.length
      have ll := H.len
      intro n
      induction n with
      | zero =>
        intro i hi
        rw [List.drop_eq_nil_of_le (by simp; omega), List.drop_eq_nil_of_le (by omega)]
        exact .nil _
      | succ n ih =>
        intro i hi
        have hi' : i < avs.length := by omega
        have e1 : (l.map (·.1)).drop i = (l[i]'(by omega)).1 :: (l.map (·.1)).drop (i + 1) := by rw [List.drop_eq_getElem_cons (by simp; omega)]; simp
        have e2 : xs.drop i = xs[i]'(by omega) :: xs.drop (i + 1) := List.drop_eq_getElem_cons (by omega)
        rw [e1, e2]
        refine .cons (fun e => by cases e) ?_ (ih (i + 1) (by omega))
        have hL := H.each i avs[i] l[i] (List.getElem?_eq_getElem hi') (List.getElem?_eq_getElem (by omega))
        obtain ⟨x, hx1, hx2, _⟩ := hx.get (List.getElem?_eq_getElem hi')
        have hxe : xs[i]'(by omega) = x := by
          rw [List.getElem?_eq_getElem (by omega)] at hx1; simpa using hx1
        rw [hxe]
        have hav : avs[i]? = some avs[i] := List.getElem?_eq_getElem hi'
        have hlp : (l.map (·.2.2))[i]? = some (l[i]'(by omega)).2.2 := by simp [List.getElem?_map, List.getElem?_eq_getElem (show i < l.length by omega)]
        generalize l[i]'(by omega) = p at hL hlp ⊢
        generalize avs[i] = v at hL hx2 hav
        cases hL with
        | ref hb hle =>
          rename_i s g o n' cells
          obtain ⟨blk, b1, b2, rfl⟩ := blkOf_some hb
          have := hx2.ref_inv b1 b2
          subst this
          refine .ref (okS_new (st.tag + 1) 0) fun blk' _ _ => ?_
          simp only [mpOf, hlp, Nat.add_zero, and_self]
        | msl hb hle =>
          rename_i s g z o n' cells
          obtain ⟨blk, b1, b2, rfl⟩ := blkOf_some hb
          obtain ⟨vs, g1, g2⟩ := h.reads b1
          have hsl := hx2.msl_inv b1 b2
          have hre := region_ext h b1
          have hvl := g1.length
          rcases hsl.2 with ⟨cap, rfl, hc, _⟩ | ⟨rfl, ad, rfl⟩
          · refine .isl (vs := (vs.drop o).take (n' * z)) rfl hc (by simp; omega) (fun k u hk => ?_) (((g1.drop o).take _).later hl)
            rw [List.getElem?_take] at hk
            split at hk
            · rename_i hkn
              rw [List.getElem?_drop] at hk
              refine ⟨by have := g2 _ u hk; rwa [← Nat.add_assoc] at this, fun hown => ?_⟩
              obtain ⟨k', s', off, n'', blk', q1, q2, q3, q4, q5, q6⟩ := H.own h (hown.resolve_right (fun hb => hb))
              have hne : s' ≠ s := lentFree_ok (readFree_ok H.free i s g z o n' hav) k' s' off n'' q1
              have hre' := region_ext h q2
              exact h.apart s' s blk' blk hne q2 b1 q4 ((m.base s).2 + o + k) ⟨by simp only [] at q5; omega, by simp only [] at q6; omega, by omega, by omega⟩
            · cases hk
          · have : (blk.cells.drop o).take (0 * z) = [] := by simp
            rw [this]
            exact .islnil
        | fsl => exact hx2.fsl_isl.move hl (.inr rfl)
        | other ht => exact hx2.move hl (.inr ht)
    simpa using key avs.length 0 (by omega)
  · simp only [aget_lentHeap, Nat.zero_le, if_true, Nat.sub_zero] at hb
    split at hb
    · rename_i cells hc
      simp only [Option.some.injEq] at hb
      subst hb
      obtain ⟨s, g, off, n, blk, g1, g2, g3, g4, g5, g6, g7⟩ := H.place hc
      simp only [mpOf, g2, g7, true_and]
      have hkey := H.key g2
      rcases h.blkAt g3 with ⟨q1, q2⟩ | ⟨cs, e, fr, r1, r2, r3, r4, r5, vs, r6, r7⟩
      · rw [q1] at g6; exact .inl (by rw [g6]; simp)
      · have rl := r6.length
        refine .inr ⟨cs, e, fr, r1, by omega, fun o o1 o2 => (r5 o (by omega) (by omega)).1, (vs.drop off).take n, by rw [g6]; exact ((r6.drop off).take n).later hl, fun j v hj => ?_⟩
        rw [List.getElem?_take] at hj
        split at hj
        · rw [List.getElem?_drop] at hj
          rw [Nat.add_assoc]
          exact r7 _ v hj
        · cases hj
    · cases hb
  · simp only [aget_lentHeap, Nat.zero_le, if_true, Nat.sub_zero] at hk hj
    split at hk
    · rename_i cells hc
      split at hj
      · rename_i cells' hc'
        obtain ⟨s, g, off, n, blk, g1, g2, g3, g4, g5, g6, g7⟩ := H.place hc
        obtain ⟨s', g', off', n', blk', g1', g2', g3', g4', g5', g6', g7'⟩ := H.place hc'
        simp only [mpOf, g2, g2'] at heq ho
        have hne := lentApart_ok H.apart k j s off n s' off' n' hkj g2 g2'
        have e1 := region_ext h g3
        have e2 := region_ext h g3'
        exact h.apart s s' blk blk' hne g3 g3' heq o ⟨by omega, by omega, by omega, by omega⟩
      · cases hj
    · cases hk


/-! ## the caller's side: what comes back -/

theorem putCells_get (st : St) (s k : Nat) (cells : List AV) : aget k (putCells st s cells).heap = (aget k st.heap).map fun b => if s = k then { b with cells := cells } else b := by
  unfold putCells
  cases h : aget s st.heap with
  | none =>
    simp only
    by_cases e : s = k
    · subst e; simp [h]
    · cases aget k st.heap <;> simp [e]
  | some b =>
    simp only [aget_aput]
    by_cases e : s = k
    · subst e; simp [h]
    · simp only [if_neg e]; cases aget k st.heap <;> simp [e]

theorem giveBack_get : ∀ {pl : List (Option (Nat × Nat × Nat))} {r : List (Option (List AV))} {st st' : St}, giveBack st pl r = some st' → lentApart pl = true →
    st'.env = st.env ∧ st'.next = st.next ∧ st'.tag = st.tag ∧ ∀ k b', aget k st'.heap = some b' → ∃ b, aget k st.heap = some b ∧ b'.stamp = b.stamp ∧
      ((b'.cells = b.cells ∧ ∀ (i o n : Nat), pl[i]? ≠ some (some (k, o, n))) ∨
       ∃ (i o n : Nat) (new : List AV), pl[i]? = some (some (k, o, n)) ∧ r[i]? = some (some new) ∧ new.length = n ∧ b'.cells = setR b.cells o new)
  | [], [], st, st', h, _ => by
    simp only [giveBack, Option.some.injEq] at h
    subst h
    exact ⟨rfl, rfl, rfl, fun k b' hb => ⟨b', hb, rfl, .inl ⟨rfl, by simp⟩⟩⟩
  | [], x :: r, st, st', h, _ => by simp [giveBack] at h
  | none :: l, [], st, st', h, _ => by simp [giveBack] at h
  | none :: l, some c :: r, st, st', h, _ => by simp [giveBack] at h
  | none :: l, none :: r, st, st', h, ha => by
    simp only [giveBack] at h
    obtain ⟨h1, h2, h3, h4⟩ := giveBack_get h ha
    refine ⟨h1, h2, h3, fun k b' hb => ?_⟩
    obtain ⟨b, g1, g2, g3⟩ := h4 k b' hb
    refine ⟨b, g1, g2, ?_⟩
    rcases g3 with ⟨g3, g4⟩ | ⟨i, o, n, new, q1, q2, q3, q4⟩
    · exact .inl ⟨g3, fun i o n => by cases i with | zero => simp | succ i => simpa using g4 i o n⟩
    · exact .inr ⟨i + 1, o, n, new, by simpa using q1, by simpa using q2, q3, q4⟩
  | some (s, o, n) :: l, [], st, st', h, _ => by simp [giveBack] at h
  | some (s, o, n) :: l, none :: r, st, st', h, _ => by simp [giveBack] at h
  | some (s, o, n) :: l, some cells :: r, st, st', h, ha => by
    simp only [giveBack] at h
    simp only [lentApart, Bool.and_eq_true] at ha
    split at h
    · rename_i b hb
      split at h
      · rename_i hlen
        obtain ⟨h1, h2, h3, h4⟩ := giveBack_get h ha.2
        have hp : (putCells st s (setR b.cells o cells)).env = st.env ∧ (putCells st s (setR b.cells o cells)).next = st.next ∧ (putCells st s (setR b.cells o cells)).tag = st.tag := by
          unfold putCells; rw [hb]; exact ⟨rfl, rfl, rfl⟩
        refine ⟨h1.trans hp.1, h2.trans hp.2.1, h3.trans hp.2.2, fun k b' hb' => ?_⟩
        obtain ⟨b1, g1, g2, g3⟩ := h4 k b' hb'
        rw [putCells_get] at g1
        by_cases e : s = k
        · subst e
          simp only [hb, Option.map_some, if_true, Option.some.injEq] at g1
          refine ⟨b, hb, by rw [g2, ← g1], .inr ⟨0, o, n, cells, by simp, by simp, hlen, ?_⟩⟩
          rcases g3 with ⟨g3, _⟩ | ⟨i, o', n', new, q1, _⟩
          · rw [g3, ← g1]
          · exact (lentFree_ok ha.1 i s o' n' q1 rfl).elim
        · cases hk : aget k st.heap with
          | none => simp [hk] at g1
          | some b0 =>
            simp only [hk, Option.map_some, if_neg e, Option.some.injEq] at g1
            refine ⟨b0, rfl, by rw [g2, ← g1], ?_⟩
            rcases g3 with ⟨g3, g4⟩ | ⟨i, o', n', new, q1, q2, q3, q4⟩
            · refine .inl ⟨by rw [g3, ← g1], fun i o' n' => ?_⟩
              cases i with
              | zero => simp [e]
              | succ i => simpa using g4 i o' n'
            · exact .inr ⟨i + 1, o', n', new, by simpa using q1, by simpa using q2, q3, by rw [q4, ← g1]⟩
      · cases h
    · cases h

/-- Behind a call: the state, the result. -/
theorem call_back (h : RelM c nt st a w m) {avs : List AV} {l : List (AV × Option (List AV) × Option (Nat × Nat × Nat))} (H : Lent st w m avs l) {w' : World} {lent' : List (Option (List AV))} {r v : AV} {x : Value} {st1 st' : St}
    (hp : CallPost w w' (st.tag + 1) (l.map (·.2.1)) lent' (mpOf w.heap.size m (l.map (·.2.2))) r x) (hg : giveBack st (l.map (·.2.2)) lent' = some st1) {own : Bool} {d : Nat}
    (ha : adopt own st1 d r = (v, st')) (hdk : isMapKey d = false := by assumption) : ∃ m', RelM c nt st' a w' m' ∧ VR (At st' w' m') v x := by
  obtain ⟨e1, e2, e3, e4⟩ := giveBack_get hg H.apart
  try simp only at e1 e2 e3 e4
  -- what the callee may have written is ours
  have hown : ∀ b o, Own ⟨w, lentHeap (st.tag + 1) 0 (l.map (·.2.1)), mpOf w.heap.size m (l.map (·.2.2)), st.tag + 1, 1⟩ b o → Own (At st w m) b o := fun b o ho => by
    obtain ⟨k, s, off, n, blk, g1, g2, g3, g4, g5, g6⟩ := H.own h ho
    have := region_ext h g2
    exact ⟨s, blk, g2, g4, by simp only []; omega, by simp only []; omega⟩
  have hpres : Pres (Own (At st w m)) w w' := hp.pres.mono fun b o _ ho => hown b o ho
  -- a block as it is now
  have hrow : ∀ k b' , aget k st1.heap = some b' → ∃ b, aget k st.heap = some b ∧ b'.stamp = b.stamp ∧ b'.cells.length = b.cells.length ∧
      ∀ s' : S, s'.w = w' → s'.m.base k = m.base k → s'.m.ext k = m.ext k → s'.m.B ≤ m.B → Later (At st w m) s' → (if isMapKey k then MapOK c s' k b' else CellsOK c s' k b') := by
    intro k b' hb'
    obtain ⟨b, g1, g2, g3⟩ := e4 k b' hb'
    have hre := region_ext h g1
    rcases g3 with ⟨g3, g4⟩ | ⟨i, o, n, new, q1, q2, q3, q4⟩
    · -- not lent
      refine ⟨b, g1, g2, by rw [g3], fun s' hw hb he hB hl => ?_⟩
      have nown : ∀ o, (m.base k).2 ≤ o → o < (m.base k).2 + m.ext k → ¬ Own ⟨w, lentHeap (st.tag + 1) 0 (l.map (·.2.1)), mpOf w.heap.size m (l.map (·.2.2)), st.tag + 1, 1⟩ (m.base k).1 o := fun o o1 o2 ho => by
        obtain ⟨k', s, off, n, blk', p1, p2, p3, p4, p5, p6⟩ := H.own h ho
        have hne : s ≠ k := fun e => g4 k' off n (e ▸ p1)
        have := region_ext h p2
        exact h.apart s k blk' b hne p2 g1 p4 o ⟨by omega, by omega, o1, o2⟩
      by_cases hk : isMapKey k = true
      · rw [if_pos hk]
        obtain ⟨ks, vs, es, n, y1, y2, y3, y4, y5, y6, y7, y8, y9⟩ := h.mapAt g1 hk
        simp only at y2 y3 y4 y5
        refine ⟨ks, vs, es, n, by rw [g3, y1], ?_, by rw [hb]; exact y3, by rw [he]; exact y4, by rw [hb]; exact y5, y6.move hl (.inl hB), y7.move hl (.inl hB), y8, y9⟩
        rw [hw, hb]
        exact hp.pres.other _ _ y2 (by intros; simp) (nown 0 (by omega) (by omega))
      rw [if_neg hk]
      have hk : isMapKey k = false := by simpa using hk
      unfold CellsOK
      rw [hw, hb, he, g3]
      rcases h.blkAt g1 with r0 | ⟨cs, e, fr, r1, r2, r3, r4, r5, vs, r6, r7⟩
      · exact .inl r0
      · obtain ⟨cs', t1, t2, t3⟩ := hp.pres.cells _ cs e fr r1
        have rl := r6.length
        refine .inr ⟨cs', e, fr, t1, by omega, r3, r4, r5, vs, r6.later hl, fun j v hj => ?_⟩
        have hj' := (List.getElem?_eq_some_iff.1 hj).1
        rw [t3 _ (nown _ (by omega) (by omega))]
        exact r7 j v hj
    · -- lent
      have hk : isMapKey k = false := H.key q1
      have hnl : ∃ cells, (l.map (·.2.1))[i]? = some (some cells) := by
        have hlt : i < l.length := by have := (List.getElem?_eq_some_iff.1 q1).1; simpa using this
        cases hli : (l.map (·.2.1))[i]? with
        | none => rw [List.getElem?_eq_none_iff] at hli; simp at hli; omega
        | some oc =>
          cases oc with
          | none => have := hp.none i hli; rw [q2] at this; cases this
          | some cells => exact ⟨cells, rfl⟩
      obtain ⟨cells, hcells⟩ := hnl
      obtain ⟨s, g, o', n', blk, p0, p1, p2, p3, p4, p5, p6⟩ := H.place hcells
      rw [q1] at p1
      simp only [Option.some.injEq, Prod.mk.injEq] at p1
      obtain ⟨rfl, rfl, rfl⟩ := p1
      rw [g1] at p2
      simp only [Option.some.injEq] at p2
      subst p2
      obtain ⟨new', us, y1, y2, y3, y4⟩ := hp.back i cells hcells
      rw [q2] at y1
      simp only [Option.some.injEq] at y1
      subst y1
      have yl := y3.length
      simp only [mpOf, q1] at y4
      have hlen : b'.cells.length = b.cells.length := by rw [q4]; simp [setR]; omega
      refine ⟨b, g1, g2, hlen, fun s' hw hb he hB hl => ?_⟩
      rw [hk]
      show CellsOK c s' k b'
      unfold CellsOK
      rw [hw, hb, he]
      rcases h.blkAt g1 with ⟨r0, r0'⟩ | ⟨cs, e, fr, r1, r2, r3, r4, r5, vs, r6, r7⟩
      · exact .inl ⟨by rw [← List.length_eq_zero_iff, hlen, r0]; rfl, r0'⟩
      · obtain ⟨cs', t1, t2, t3⟩ := hp.pres.cells _ cs e fr r1
        have rl := r6.length
        refine .inr ⟨cs', e, fr, t1, by omega, by omega, r4, r5, vs.take o ++ us ++ vs.drop (o + us.length), by rw [q4]; exact (r6.later hl).setR (y3.vrs s' true) o, fun j v hj => ?_⟩
        by_cases h1 : j < o
        · rw [List.append_assoc, List.getElem?_append_left (by simp; omega), List.getElem?_take, if_pos h1] at hj
          rw [t3 _ (fun ho => ?_)]
          · exact r7 j v hj
          · obtain ⟨k', s', off, n'', blk', z1, z2, z3, z4, z5, z6⟩ := H.own h ho
            by_cases e : s' = k
            · subst e
              have hik : k' = i := by
                by_cases hik : k' = i
                · exact hik
                · exact (lentApart_ok H.apart k' i s' off n'' s' o n hik z1 q1 rfl).elim
              subst hik
              rw [q1] at z1
              simp only [Option.some.injEq, Prod.mk.injEq, true_and] at z1
              omega
            · have := region_ext h z2
              exact h.apart s' k blk' b e z2 g1 z4 ((m.base k).2 + j) ⟨by omega, by omega, by omega, by omega⟩
        · by_cases h2 : j < o + us.length
          · rw [List.append_assoc, List.getElem?_append_right (by simp; omega), List.getElem?_append_left (by simp; omega)] at hj
            simp only [List.length_take, Nat.min_eq_left (show o ≤ vs.length by omega)] at hj
            have := y4 _ v hj
            rw [block_cell t1] at this
            rw [← this]; congr 1; omega
          · rw [List.getElem?_append_right (by simp; omega)] at hj
            simp only [List.length_append, List.length_take, Nat.min_eq_left (show o ≤ vs.length by omega), List.getElem?_drop] at hj
            rw [t3 _ (fun ho => ?_)]
            · refine r7 j v ?_
              rw [← hj]; congr 1; omega
            · have hj' := (List.getElem?_eq_some_iff.1 hj).1
              obtain ⟨k', s', off, n'', blk', z1, z2, z3, z4, z5, z6⟩ := H.own h ho
              by_cases e : s' = k
              · subst e
                have hik : k' = i := by
                  by_cases hik : k' = i
                  · exact hik
                  · exact (lentApart_ok H.apart k' i s' off n'' s' o n hik z1 q1 rfl).elim
                subst hik
                rw [q1] at z1
                simp only [Option.some.injEq, Prod.mk.injEq, true_and] at z1
                omega
              · have := region_ext h z2
                exact h.apart s' k blk' b e z2 g1 z4 ((m.base k).2 + j) ⟨by omega, by omega, by omega, by omega⟩
  have hBw : c.w0.heap.size ≤ w.heap.size := h.pres.size
  have hpres0 : Pres c.A c.w0 w' := by
    refine h.pres.trans hp.pres (fun _ _ _ x => x) (fun b o hlt ho => ?_)
    obtain ⟨k, s, off, n, blk, g1, g2, g3, g4, g5, g6⟩ := H.own h ho
    have hre := region_ext h g2
    rcases (h.blk s blk g2).mine (o := o) (by simp only; omega) (by simp only; omega) with y | y
    · simp only at y; omega
    · exact g4 ▸ y
  obtain ⟨rs, hres, hap⟩ := hp.res
  -- nothing new becomes ours
  have plainCase : st' = st1 → v = r → ∃ m', RelM c nt st' a w' m' ∧ VR (At st' w' m') v x := by
    intro es ev
    subst es ev
    have ownNow : ∀ b o, Own (At st' w' m) b o → b < w.heap.size ∧ Own (At st w m) b o := by
      rintro b o ⟨k, b', h1, h2, h3, h4⟩
      obtain ⟨b0, g1, _⟩ := hrow k b' h1
      simp only at h2 h3 h4
      have := (h.blk k b0 g1).lt
      simp only at this
      exact ⟨by omega, k, b0, g1, h2, h3, h4⟩
    have hl : Later (At st w m) (At st' w' m) := by
      refine ⟨hpres, fun b o _ ho => (ownNow b o ho).2, fun site blk' hb _ => ?_, fun σ hσ => ?_, fun b o _ hb => .inr hb, rfl⟩
      · obtain ⟨b0, g1, g2, g3, _⟩ := hrow site blk' hb
        exact ⟨b0, g1, g2.symm, rfl, rfl, g3.symm⟩
      · simp only [At, e2, e3]; exact okS_mono hσ (Nat.le_refl _)
    refine ⟨m, ⟨h.defers, h.size, by rw [e2]; exact h.next1, h.mB, fun k u hk => (h.env k u (by rw [← e1]; exact hk)).move hl (.inl (Nat.le_refl _)), hpres0, fun k b' hb => ?_, fun i j bi bj hij hi hj => ?_⟩, ?_⟩
    · obtain ⟨b0, g1, g2, g3, g4⟩ := hrow k b' hb
      have hB := h.blk k b0 g1
      exact ⟨by rw [g2]; exact hl.ok _ hB.1, fun e => hB.2.1 (by rw [← g2, e]; simp only [At, e3]), g4 _ rfl rfl rfl (Nat.le_refl _) hl⟩
    · obtain ⟨b0, g1, _⟩ := hrow i bi hi
      obtain ⟨b0', g1', _⟩ := hrow j bj hj
      exact h.apart i j b0 b0' hij g1 g1'
    · refine hres.vr rfl (by show m.B ≤ _; rw [h.mB.1]; exact hBw) (fun rg hr b o hin ho => ?_)
      have := hres.new rg hr
      have h1 : b < w.heap.size := ho.elim (fun ho => (ownNow b o ho).1) (fun ho => Nat.lt_of_lt_of_le (h.mB.2.1 b o ho) hBw)
      have := hin.1
      omega
  unfold adopt at ha
  split at ha
  · rename_i hown1
    split at ha
    · -- a new slice becomes ours
      rename_i z n cells
      simp only [Prod.mk.injEq] at ha
      obtain ⟨rfl, rfl⟩ := ha
      -- where it lies
      have hrowx : ∃ (bs : Nat × Nat) (ext : Nat) (vs : List Value), PVs cells vs ∧ cells.length = n * z ∧ (ext = 0 ∨ w.heap.size ≤ bs.1) ∧
          ((cells = [] ∧ ext = 0) ∨ ∃ (cs : Array Value) (e : TypeId) (fr : Nat × Nat), w'.heap[bs.1]? = some (.cells cs e fr) ∧ bs.2 + ext ≤ cs.size ∧ cells.length ≤ ext ∧
            (∀ o, bs.2 ≤ o → o < bs.2 + ext → ¬ (fr.1 ≤ o ∧ o < fr.2)) ∧ ∀ (j : Nat) (v : Value), vs[j]? = some v → cs[bs.2 + j]? = some v) ∧
          ((∃ cap, x = .slice (some ⟨bs.1, bs.2, none⟩) n cap ∧ n ≤ cap ∧ cap * z ≤ ext) ∨ (n = 0 ∧ ∃ ad, x = .slice ad 0 0)) := by
        cases hres with
        | one hr =>
          cases hr with
          | plain hr => exact hr.elim
          | fslnil => exact ⟨(0, 0), 0, [], .nil, by simp, .inl rfl, .inl ⟨rfl, rfl⟩, .inr ⟨rfl, _, rfl⟩⟩
          | fsl hr =>
            rename_i cap b o vs cs e fr
            have hle : n * z ≤ cap * z := Nat.mul_le_mul_right _ hr.hcap
            exact ⟨(b, o), cap * z, vs, hr.hv, hr.hlen, .inr hr.hB, .inr ⟨cs, e, fr, hr.hb, hr.hsz, by rw [hr.hlen]; exact hle, hr.hf, hr.hc⟩, .inl ⟨cap, rfl, hr.hcap, Nat.le_refl _⟩⟩
      obtain ⟨bs, ext, vs, hpv, hlen, hfresh, hmem, hval⟩ := hrowx
      have mb : ∀ j, j ≠ d → (m.set d bs ext).base j = m.base j ∧ (m.set d bs ext).ext j = m.ext j := fun j hj => by simp [Mp.set, hj]
      have md : (m.set d bs ext).base d = bs ∧ (m.set d bs ext).ext d = ext := by simp [Mp.set]
      have other : ∀ j b, j ≠ d → aget j (newBlk st1 d cells).2.heap = some b → aget j st1.heap = some b := fun j b hj hb => by
        simpa only [newBlk, aget_aput, if_neg (Ne.symm hj)] using hb
      have hl : Later (At st w m) (At (newBlk st1 d cells).2 w' (m.set d bs ext)) := by
        refine ⟨hpres, fun b o hlt ho => ?_, fun site blk' hb hok => ?_, fun σ hσ => ?_, fun b o _ hb => .inr hb, rfl⟩
        · obtain ⟨k, b', h1, h2, h3, h4⟩ := ho
          simp only [At] at h1 h2 h3 h4 hlt
          by_cases e : k = d
          · subst e
            rw [md.1] at h2 h3 h4; rw [md.2] at h4
            clear hmem hval
            omega
          · rw [(mb k e).1] at h2 h3 h4; rw [(mb k e).2] at h4
            obtain ⟨b0, g1, _⟩ := hrow k b' (other k b' e h1)
            exact ⟨k, b0, g1, h2, h3, h4⟩
        · by_cases e : site = d
          · subst e
            simp only [At, newBlk, aget_aput, if_true, Option.some.injEq] at hb
            subst hb
            exact (okS_fresh (by
              simp only [e2, e3] at hok
              exact okS_mono hok (Nat.le_refl _))).elim
          · obtain ⟨b0, g1, g2, g3, _⟩ := hrow site blk' (other site blk' e hb)
            exact ⟨b0, g1, g2.symm, (mb site e).1, (mb site e).2, g3.symm⟩
        · simp only [At, newBlk, e2, e3]; exact okS_mono hσ (by show st.next ≤ _; clear hmem hval; omega)
      refine ⟨m.set d bs ext, ⟨h.defers, h.size, by simp only [newBlk]; omega, h.mB, fun k u hk => (h.env k u (by rw [← e1]; exact hk)).move hl (.inl (Nat.le_refl _)), hpres0, fun k b' hb => ?_, fun i j bi bj hij hi hj => ?_⟩, ?_⟩
      · by_cases e : k = d
        · subst e
          simp only [newBlk, aget_aput, if_true, Option.some.injEq] at hb
          subst hb
          refine ⟨okS_new _ _, fun e => ?_, ?_⟩
          · have := h.next1
            simp only [newBlk, Prod.mk.injEq] at e
            omega
          · refine cellsI hdk ?_
            unfold CellsOK
            simp only [At, md.1, md.2]
            by_cases hx0 : ext = 0
            · refine .inl ⟨?_, hx0⟩
              rcases hmem with g | ⟨cs, e, fr, g1, g2, g3, g4, g5⟩
              · exact g.1
              · exact List.eq_nil_of_length_eq_zero (by omega)
            · have hf : w.heap.size ≤ bs.1 := hfresh.resolve_left hx0
              have hf' : c.w0.heap.size ≤ bs.1 := Nat.le_trans hBw hf
              rcases hmem with g | ⟨cs, e, fr, g1, g2, g3, g4, g5⟩
              · exact (hx0 g.2).elim
              · exact .inr ⟨cs, e, fr, g1, g2, g3, fun _ _ => hf', fun o o1 o2 => ⟨g4 o o1 o2, .inl hf'⟩, vs, hpv.vrs _ true, g5⟩
        · obtain ⟨b0, g1, g2, g3, g4⟩ := hrow k b' (other k b' e hb)
          have hB := h.blk k b0 g1
          refine ⟨by rw [g2]; exact hl.ok _ hB.1, fun e' => ?_, g4 _ rfl (mb k e).1 (mb k e).2 (Nat.le_refl _) hl⟩
          show (m.set d bs ext).base k = _ ∧ (m.set d bs ext).ext k = _
          rw [(mb k e).1, (mb k e).2]
          exact hB.2.1 (by rw [← g2, e']; simp only [At, newBlk, e3])
      · have low : ∀ j bj, j ≠ d → aget j st1.heap = some bj → m.ext j = 0 ∨ (m.base j).1 < w.heap.size := fun j bj _ hj => by
          obtain ⟨b0, g1, _⟩ := hrow j bj hj
          exact (h.blk j b0 g1).lt
        by_cases ei : i = d
        · subst ei
          have hj' := other j bj (Ne.symm hij) hj
          have := low j bj (Ne.symm hij) hj'
          rw [md.1, md.2, (mb j (Ne.symm hij)).1, (mb j (Ne.symm hij)).2]
          intro e o ho
          clear hmem hval
          omega
        · by_cases ej : j = d
          · subst ej
            have hi' := other i bi ei hi
            have := low i bi ei hi'
            rw [md.1, md.2, (mb i ei).1, (mb i ei).2]
            intro e o ho
            clear hmem hval
            omega
          · obtain ⟨b0, g1, _⟩ := hrow i bi (other i bi ei hi)
            obtain ⟨b0', g1', _⟩ := hrow j bj (other j bj ej hj)
            rw [(mb i ei).1, (mb i ei).2, (mb j ej).1, (mb j ej).2]
            exact h.apart i j b0 b0' hij g1 g1'
      · refine .msl (okS_new _ _) ?_ fun blk' hb hs => ?_
        · rcases hval with ⟨cap, rfl, hc, _⟩ | ⟨rfl, ad, rfl⟩
          · exact ⟨rfl, hc⟩
          · exact ⟨rfl, Nat.le_refl _⟩
        · simp only [At, newBlk, aget_aput, if_true, Option.some.injEq] at hb
          subst hb
          refine ⟨by simp [hlen], ?_⟩
          rcases hval with ⟨cap, rfl, hc, hx⟩ | ⟨rfl, ad, rfl⟩
          · exact .inl ⟨cap, by simp only [At]; rw [md.1]; simp, hc, by simp only [At]; rw [md.2]; omega⟩
          · exact .inr ⟨rfl, ad, rfl⟩
    · simp only [Prod.mk.injEq] at ha
      exact plainCase ha.2.symm ha.1.symm
  · simp only [Prod.mk.injEq] at ha
    exact plainCase ha.2.symm ha.1.symm

end

end Go.Sim
