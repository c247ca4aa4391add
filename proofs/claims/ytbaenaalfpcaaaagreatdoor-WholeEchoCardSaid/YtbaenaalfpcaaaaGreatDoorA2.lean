/- Part of the proof: an interpreter of the model, proved sound, and what it makes of the functions. -/
import Derived.Test.YtbaenaalfpcaaaaGreatDoorA1
import Derived.RangeFuncLeaves
import Derived.LoopNIn
import Derived.OrdersIn
import Derived.TacticsIn
import Derived.RangeFuncRecord
import Derived.MapKept
set_option linter.unusedVariables false
set_option linter.unusedSimpArgs false
section
namespace Go.Sim
open Go
abbrev Reg := Nat × Nat × Nat
def InR (r : Reg) (b o : Nat) : Prop := r.1 = b ∧ r.2.1 ≤ o ∧ o < r.2.1 + r.2.2
def Apart (rs : List Reg) : Prop := rs.Pairwise fun r r' => ∀ b o, ¬ (InR r b o ∧ InR r' b o)
structure RowAt (w : World) (B sz n cap b o : Nat) (cells : List AV) (vs : List Value) (cs : Array Value) (e : TypeId) (fr : Nat × Nat) : Prop where
  hB : B ≤ b
  hb : w.heap[b]? = some (.cells cs e fr)
  hsz : o + cap * sz ≤ cs.size
  hcap : n ≤ cap
  hlen : cells.length = n * sz
  hv : PVs cells vs
  hc : ∀ (j : Nat) (v : Value), vs[j]? = some v → cs[o + j]? = some v
  hf : ∀ k, o ≤ k → k < o + cap * sz → ¬ (fr.1 ≤ k ∧ k < fr.2)
inductive RC (w : World) (B : Nat) : AV → Value → List Reg → Prop
  | plain {c : AV} {v : Value} (h : PV c v) : RC w B c v []
  | isl {sz n cap b o : Nat} {cells : List AV} {vs : List Value} {cs : Array Value} {e : TypeId} {fr : Nat × Nat} (h : RowAt w B sz n cap b o cells vs cs e fr) :
      RC w B (.isl sz n cells) (.slice (some ⟨b, o, none⟩) n cap) [(b, o, cap * sz)]
  | islnil {sz : Nat} {a : Option Addr} : RC w B (.isl sz 0 []) (.slice a 0 0) []
inductive RCs (w : World) (B : Nat) : List AV → List Value → List Reg → Prop
  | nil : RCs w B [] [] []
  | cons {c : AV} {v : Value} {cs : List AV} {vs : List Value} {r rs : List Reg} (h : RC w B c v r) (hs : RCs w B cs vs rs) : RCs w B (c :: cs) (v :: vs) (r ++ rs)
inductive Res1 (w : World) (B : Nat) (gl : Nat → Option Value) : AV → Value → List Reg → Prop
  | plain {c : AV} {v : Value} (h : PV c v) : Res1 w B gl c v []
  | fsl {sz n cap b o : Nat} {cells : List AV} {vs : List Value} {cs : Array Value} {e : TypeId} {fr : Nat × Nat} (h : RowAt w B sz n cap b o cells vs cs e fr) :
      Res1 w B gl (.fsl sz n cells) (.slice (some ⟨b, o, none⟩) n cap) [(b, o, cap * sz)]
  | fslnil {sz : Nat} {a : Option Addr} : Res1 w B gl (.fsl sz 0 []) (.slice a 0 0) []
  | err {g T : Nat} {a : Addr} (h : gl g = some (.iface T (.pointer (some a)))) : Res1 w B gl (.err g) (.iface T (.pointer (some a))) []
  | agg {cs : List AV} {vs : List Value} {rs : List Reg} (h : RCs w B cs vs rs) : Res1 w B gl (.agg cs) (.agg vs.toArray) rs
inductive Res1s (w : World) (B : Nat) (gl : Nat → Option Value) : List AV → List Value → List Reg → Prop
  | nil : Res1s w B gl [] [] []
  | cons {c : AV} {v : Value} {cs : List AV} {vs : List Value} {r rs : List Reg} (h : Res1 w B gl c v r) (hs : Res1s w B gl cs vs rs) : Res1s w B gl (c :: cs) (v :: vs) (r ++ rs)
inductive Res (w : World) (B : Nat) (gl : Nat → Option Value) : AV → Value → List Reg → Prop
  | one {c : AV} {v : Value} {rs : List Reg} (h : Res1 w B gl c v rs) : Res w B gl c v rs
  | tup {cs : List AV} {vs : List Value} {rs : List Reg} (h : Res1s w B gl cs vs rs) : Res w B gl (.tup cs) (.tuple vs.toArray) rs
section
variable {w : World} {B : Nat} {gl : Nat → Option Value} {s : S}
theorem RC.vr (hw : s.w = w) {c : AV} {v : Value} {rs : List Reg} (h : RC w B c v rs) (hn : ∀ r ∈ rs, ∀ b o, InR r b o → ¬ Held s b o) : VR s c v ∧ v.oneCell' = true ∧ c.top = true := by
  cases h with
  | plain h => exact h.vr s
  | islnil => exact ⟨.islnil, rfl, rfl⟩
  | isl h =>
    rename_i sz n cap b o cells vs cs e fr
    refine ⟨.isl (vs := vs) rfl h.hcap h.hlen (fun k u hk => ⟨?_, ?_⟩) (h.hv.vrs s true), rfl, rfl⟩
    · rw [hw, zax h.hb]; exact h.hc k u hk
    · have h1 := (List.getElem?_eq_some_iff.1 hk).1
      have h2 := h.hv.length
      have h3 : n * sz ≤ cap * sz := Nat.mul_le_mul_right _ h.hcap
      have h4 := h.hlen
      exact hn (b, o, cap * sz) (List.mem_singleton.2 rfl) b (o + k) ⟨rfl, Nat.le_add_right _ _, by simp only; omega⟩
theorem RCs.vr (hw : s.w = w) {cs : List AV} {vs : List Value} {rs : List Reg} (h : RCs w B cs vs rs) (hn : ∀ r ∈ rs, ∀ b o, InR r b o → ¬ Held s b o) : VRs s true cs vs := by
  induction h with
  | nil => exact .nil _
  | cons h hs ih =>
    have := h.vr hw (fun r hr => hn r (by simp [hr]))
    exact .cons (fun _ => this.2) this.1 (ih fun r hr => hn r (by simp [hr]))
theorem Res1.vr (hw : s.w = w) (hB : s.m.B ≤ B) (hgl : s.m.gl = gl) {c : AV} {v : Value} {rs : List Reg} (h : Res1 w B gl c v rs) (hn : ∀ r ∈ rs, ∀ b o, InR r b o → ¬ Held s b o) : VR s c v := by
  cases h with
  | plain h => exact (h.vr s).1
  | fslnil => exact .fslnil
  | err h => exact .err (by rw [hgl]; exact h)
  | fsl h =>
    exact .fsl (Nat.le_trans hB h.hB) (hw ▸ h.hb) h.hsz h.hcap h.hlen h.hv h.hc (fun k k1 k2 => ⟨h.hf k k1 k2, hn _ (List.mem_singleton.2 rfl) _ k ⟨rfl, k1, k2⟩⟩)
  | agg h => exact .agg (h.vr hw hn)
theorem Res1s.vr (hw : s.w = w) (hB : s.m.B ≤ B) (hgl : s.m.gl = gl) {cs : List AV} {vs : List Value} {rs : List Reg} (h : Res1s w B gl cs vs rs) (hn : ∀ r ∈ rs, ∀ b o, InR r b o → ¬ Held s b o) : VRs s false cs vs := by
  induction h with
  | nil => exact .nil _
  | cons h hs ih => exact .cons (fun e => by cases e) (h.vr hw hB hgl fun r hr => hn r (by simp [hr])) (ih fun r hr => hn r (by simp [hr]))
theorem Res.vr (hw : s.w = w) (hB : s.m.B ≤ B) (hgl : s.m.gl = gl) {c : AV} {v : Value} {rs : List Reg} (h : Res w B gl c v rs) (hn : ∀ r ∈ rs, ∀ b o, InR r b o → ¬ Held s b o) : VR s c v := by
  cases h with
  | one h => exact h.vr hw hB hgl hn
  | tup h => exact .tup (h.vr hw hB hgl hn)
theorem RC.new {c : AV} {v : Value} {rs : List Reg} (h : RC w B c v rs) : ∀ r ∈ rs, B ≤ r.1 := by
  cases h <;> simp
  rename_i h; exact h.hB
theorem RCs.new {cs : List AV} {vs : List Value} {rs : List Reg} (h : RCs w B cs vs rs) : ∀ r ∈ rs, B ≤ r.1 := by
  induction h with
  | nil => simp
  | cons h hs ih => intro r hr; exact (List.mem_append.1 hr).elim (fun x => h.new r x) (fun x => ih r x)
theorem Res1.new {c : AV} {v : Value} {rs : List Reg} (h : Res1 w B gl c v rs) : ∀ r ∈ rs, B ≤ r.1 := by
  cases h with
  | plain => simp
  | err => simp
  | fslnil => simp
  | fsl h => simp; exact h.hB
  | agg h => exact h.new
theorem Res1s.new {cs : List AV} {vs : List Value} {rs : List Reg} (h : Res1s w B gl cs vs rs) : ∀ r ∈ rs, B ≤ r.1 := by
  induction h with
  | nil => simp
  | cons h hs ih => intro r hr; exact (List.mem_append.1 hr).elim (fun x => h.new r x) (fun x => ih r x)
theorem Res.new {c : AV} {v : Value} {rs : List Reg} (h : Res w B gl c v rs) : ∀ r ∈ rs, B ≤ r.1 := by
  cases h with
  | one h => exact h.new
  | tup h => exact h.new
end
structure CallPre (w : World) (tag : Nat) (args : List AV) (lent : List (Option (List AV))) (vs : List Value) (m : Mp) : Prop where
  mB : m.B = w.heap.size ∧ ∀ b o, m.ban b o → b < w.heap.size
  glob : GlobS ⟨w, lentHeap tag 0 lent, m, tag, 1⟩
  args : VRs ⟨w, lentHeap tag 0 lent, m, tag, 1⟩ false args vs
  blk : ∀ k b, aget k (lentHeap tag 0 lent) = some b → m.ext k = b.cells.length ∧ (b.cells = [] ∨
    ∃ (cs : Array Value) (e : TypeId) (fr : Nat × Nat), w.heap[(m.base k).1]? = some (.cells cs e fr) ∧ (m.base k).2 + m.ext k ≤ cs.size ∧
    (∀ o, (m.base k).2 ≤ o → o < (m.base k).2 + m.ext k → ¬ (fr.1 ≤ o ∧ o < fr.2)) ∧
    ∃ us, VRs ⟨w, lentHeap tag 0 lent, m, tag, 1⟩ true b.cells us ∧ ∀ (j : Nat) (v : Value), us[j]? = some v → cs[(m.base k).2 + j]? = some v)
  apart : ∀ k j b b', k ≠ j → aget k (lentHeap tag 0 lent) = some b → aget j (lentHeap tag 0 lent) = some b' → (m.base k).1 = (m.base j).1 →
    ∀ o, ¬ ((m.base k).2 ≤ o ∧ o < (m.base k).2 + m.ext k ∧ (m.base j).2 ≤ o ∧ o < (m.base j).2 + m.ext j)
structure CallPost (w w' : World) (tag : Nat) (lent lent' : List (Option (List AV))) (m : Mp) (r : AV) (x : Value) : Prop where
  pres : Pres (Own ⟨w, lentHeap tag 0 lent, m, tag, 1⟩) w w'
  res : ∃ rs, Res w' w.heap.size m.gl r x rs ∧ Apart rs
  len : lent'.length = lent.length
  none : ∀ k : Nat, lent[k]? = some none → lent'[k]? = some none
  back : ∀ (k : Nat) (old : List AV), lent[k]? = some (some old) → ∃ new us, lent'[k]? = some (some new) ∧ new.length = old.length ∧ PVs new us ∧
    ∀ (j : Nat) (v : Value), us[j]? = some v → w'.cell? ⟨(m.base k).1, (m.base k).2 + j, Option.none⟩ = some v
def Invokes (P : Program) (f : Nat) (args : Array Value) (w : World) (R : Value → World → Prop) : Prop :=
  ((callFunc f args).run P w = .ok (.enter f args) w ∧ Calls P f args w fun e w' => ∃ x, e = .returned x ∧ R x w') ∨
  (∃ x w', (callFunc f args).run P w = .ok (.value x) w' ∧ R x w') ∨
  (∃ row, (callFunc f args).run P w = .ok (.row row args) w ∧ Go.Rows P row args w R)
def CallOK (P : Program) (f : Nat) (tag : Nat) (args : List AV) (lent : List (Option (List AV))) (r : AV) (lent' : List (Option (List AV))) : Prop :=
  ∀ (w : World) (vs : List Value) (m : Mp), CallPre w tag args lent vs m → GlobP P m.gl → Invokes P f vs.toArray w fun x w' => CallPost w w' tag lent lent' m r x
theorem zas (tag : Nat) (k : Nat) : ∀ (j : Nat) (lent : List (Option (List AV))),
    aget k (lentHeap tag j lent) = if j ≤ k then (match lent[k - j]? with | some (some cells) => some ⟨(tag, 0), cells⟩ | _ => none) else none
  | j, [] => by simp [lentHeap, aget]
  | j, none :: l => by
    simp only [lentHeap, zas tag k (j + 1) l]
    by_cases h : j + 1 ≤ k
    · rw [if_pos h, if_pos (by omega), show k - j = (k - (j + 1)) + 1 from by omega]
      simp
    · rw [if_neg h]
      by_cases h2 : j ≤ k
      · rw [if_pos h2, show k - j = 0 from by omega]; simp
      · rw [if_neg h2]
  | j, some cells :: l => by
    simp only [lentHeap, aget, zas tag k (j + 1) l]
    by_cases e : j = k
    · subst e; simp
    · rw [if_neg e]
      by_cases h : j + 1 ≤ k
      · rw [if_pos h, if_pos (by omega), show k - j = (k - (j + 1)) + 1 from by omega]
        simp
      · rw [if_neg h, if_neg (by omega)]
inductive LendOK (st : St) (k : Nat) : AV → (AV × Option (List AV) × Option (Nat × Nat × Nat)) → Prop
  | ref {s : Nat} {g : Nat × Nat} {o n : Nat} {cells : List AV} (hb : blkOf st s g = some cells) (hle : o + n ≤ cells.length) :
      LendOK st k (.ref s g o) (.ref k (st.tag + 1, 0) 0, some ((cells.drop o).take n), some (s, o, n))
  | msl {s : Nat} {g : Nat × Nat} {z o n : Nat} {cells : List AV} (hb : blkOf st s g = some cells) (hle : o + n * z ≤ cells.length) :
      LendOK st k (.msl s g z o n) (.isl z n ((cells.drop o).take (n * z)), none, none)
  | fsl {z n : Nat} {cells : List AV} : LendOK st k (.fsl z n cells) (.isl z n cells, none, none)
  | other {v : AV} (ht : v.top = true) : LendOK st k v (v, none, none)
theorem lend_ok {L : Nat → Option TI} {st : St} {k : Nat} {v : AV} {t : Option Nat} {p : AV × Option (List AV) × Option (Nat × Nat × Nat)} (h : lend L st k v t = some p) : LendOK st k v p := by
  unfold lend at h
  split at h
  · rename_i s g o
    cases hb : blkOf st s g with
    | none => simp [hb] at h
    | some cells =>
      simp only [hb, qO3, qO2] at h
      cases hn : lendSize L (cells.length - o) t with
      | none => simp [hn] at h
      | some n =>
        simp only [hn, qO2] at h
        split at h
        · rename_i hle
          simp only [qO1] at h
          subst h
          exact .ref hb hle
        · cases h
  · rename_i s g z o n
    cases hb : blkOf st s g with
    | none => simp [hb] at h
    | some cells =>
      simp only [hb, qO3, qO2] at h
      split at h
      · rename_i hle
        simp only [qO1] at h
        subst h
        exact .msl hb hle
      · cases h
  · simp only [qO1] at h
    subst h
    exact .fsl
  · cases h
  · cases h
  · cases h
  · rename_i h1 h2 h3 h4 h5 h6
    simp only [qO1] at h
    subst h
    refine .other ?_
    cases v <;> first | rfl | exact (h3 _ _ _ rfl).elim | exact (h4 _ rfl).elim | exact (h5 _ _ rfl).elim | exact (h6 _ _ rfl).elim
theorem zhn {L : Nat → Option TI} {st : St} : ∀ {j : Nat} {vs : List AV} {ts : List Nat} {l : List (AV × Option (List AV) × Option (Nat × Nat × Nat))}, lendAll L st j vs ts = some l →
    l.length = vs.length ∧ ∀ i v p, vs[i]? = some v → l[i]? = some p → LendOK st (j + i) v p
  | j, [], ts, l, h => by simp [lendAll] at h; subst h; exact ⟨rfl, fun i v p h => by simp at h⟩
  | j, v :: vs, ts, l, h => by
    unfold lendAll at h
    cases h1 : lend L st j v ts.head? with
    | none => simp only [h1, qO3, Option.bind_none] at h; cases h
    | some x =>
      cases h2 : lendAll L st (j + 1) vs (ts.drop 1) with
      | none => simp only [h1, h2, qO3, qO2, Option.bind_none] at h; cases h
      | some xs =>
        simp only [h1, h2, qO3, qO2, qO1] at h
        subst h
        obtain ⟨g1, g2⟩ := zhn h2
        refine ⟨by simp [g1], fun i u p hu hp => ?_⟩
        cases i with
        | zero => simp at hu hp; subst hu hp; simpa using lend_ok h1
        | succ i => simp at hu hp; have := g2 i u p hu hp; rwa [show j + 1 + i = j + (i + 1) from by omega] at this
theorem zcl {s : Nat} : ∀ {l : List (Option (Nat × Nat × Nat))}, lentFree s l = true → ∀ (k s' o n : Nat), l[k]? = some (some (s', o, n)) → s' ≠ s
  | [], _, k, s', o, n, h => by simp at h
  | none :: l, hf, k, s', o, n, h => by
    cases k with
    | zero => simp at h
    | succ k => exact zcl (l := l) hf k s' o n (by simpa using h)
  | some (a, b, c) :: l, hf, k, s', o, n, h => by
    simp only [lentFree, qO5, bne_iff_ne] at hf
    cases k with
    | zero => simp at h; rw [← h.1]; exact hf.1
    | succ k => exact zcl (l := l) hf.2 k s' o n (by simpa using h)
theorem zcq : ∀ {l : List (Option (Nat × Nat × Nat))}, lentApart l = true → ∀ (i j s o n s' o' n' : Nat), i ≠ j → l[i]? = some (some (s, o, n)) → l[j]? = some (some (s', o', n')) → s ≠ s'
  | [], _, i, j, _, _, _, _, _, _, _, h, _ => by simp at h
  | none :: l, hf, i, j, s, o, n, s', o', n', hij, h, h' => by
    cases i with
    | zero => simp at h
    | succ i => cases j with
      | zero => simp at h'
      | succ j => exact zcq (l := l) hf i j s o n s' o' n' (by omega) (by simpa using h) (by simpa using h')
  | some (a, b, c) :: l, hf, i, j, s, o, n, s', o', n', hij, h, h' => by
    simp only [lentApart, qO5] at hf
    cases i with
    | zero =>
      cases j with
      | zero => exact (hij rfl).elim
      | succ j => simp at h; rw [← h.1]; exact (zcl hf.1 j s' o' n' (by simpa using h')).symm
    | succ i =>
      cases j with
      | zero => simp at h'; rw [← h'.1]; exact zcl hf.1 i s o n (by simpa using h)
      | succ j => exact zcq hf.2 i j s o n s' o' n' (by omega) (by simpa using h) (by simpa using h')
theorem zin {pl : List (Option (Nat × Nat × Nat))} : ∀ {vs : List AV}, readFree pl vs = true → ∀ (i s : Nat) (g : Nat × Nat) (z o n : Nat), vs[i]? = some (.msl s g z o n) → lentFree s pl = true
  | [], _, i, s, g, z, o, n, h => by simp at h
  | v :: vs, hf, i, s, g, z, o, n, h => by
    cases i with
    | zero =>
      simp at h
      subst h
      simp only [readFree, qO5] at hf
      exact hf.1
    | succ i =>
      refine zin (vs := vs) ?_ i s g z o n (by simpa using h)
      unfold readFree at hf
      split at hf
      · rename_i e; cases e
      · rename_i e; cases e; simp only [qO5] at hf; exact hf.2
      · rename_i e; cases e; exact hf
def mpOf (B : Nat) (m : Mp) (pl : List (Option (Nat × Nat × Nat))) : Mp :=
  { base := fun k => match pl[k]? with | some (some (s, o, _)) => ((m.base s).1, (m.base s).2 + o) | _ => (0, 0)
    ext := fun k => match pl[k]? with | some (some (_, _, n)) => n | _ => 0
    B := B
    ban := fun _ _ => False
    gl := m.gl
    tk := m.tk }
theorem okS_lent {tag : Nat} {n : Nat} : ¬ okS tag n (tag + 1, 0) := by simp [okS]
section
variable {P : Program} {c : Cx} {nt : Nat} {st : St} {a : Act} {w : World} {m : Mp}
theorem zbf (h : RelM c nt st a w m) {k : Nat} {blk : Blk} (hb : aget k st.heap = some blk) : blk.cells.length ≤ m.ext k := by
  exact (h.blk k blk hb).fits
structure Lent (st : St) (w : World) (m : Mp) (avs : List AV) (l : List (AV × Option (List AV) × Option (Nat × Nat × Nat))) : Prop where
  len : l.length = avs.length
  each : ∀ i v p, avs[i]? = some v → l[i]? = some p → LendOK st i v p
  apart : lentApart (l.map (·.2.2)) = true
  free : readFree (l.map (·.2.2)) avs = true
theorem Lent.place {avs : List AV} {l : List (AV × Option (List AV) × Option (Nat × Nat × Nat))} (H : Lent st w m avs l) {k : Nat} {cells : List AV}
    (hk : (l.map (·.2.1))[k]? = some (some cells)) : ∃ (s : Nat) (g : Nat × Nat) (o n : Nat) (blk : Blk), avs[k]? = some (.ref s g o) ∧ (l.map (·.2.2))[k]? = some (some (s, o, n)) ∧ aget s st.heap = some blk ∧ blk.stamp = g ∧
      o + n ≤ blk.cells.length ∧ cells = (blk.cells.drop o).take n ∧ cells.length = n := by
  rw [List.getElem?_map] at hk
  cases hp : l[k]? with
  | none => simp [hp] at hk
  | some p =>
    have hlt : k < avs.length := by rw [← H.len]; exact (List.getElem?_eq_some_iff.1 hp).1
    have hL := H.each k avs[k] p (List.getElem?_eq_getElem hlt) hp
    simp only [hp, Option.map_some, qO1] at hk
    generalize hv : avs[k] = v at hL
    cases hL with
    | ref hb hle =>
      rename_i s g o n cs
      obtain ⟨blk, b1, b2, rfl⟩ := zap hb
      simp only [qO1] at hk
      exact ⟨s, g, o, n, blk, by rw [List.getElem?_eq_getElem hlt, hv], by simp [List.getElem?_map, hp], b1, b2, hle, hk.symm, by rw [← hk]; simp; omega⟩
    | msl => cases hk
    | fsl => cases hk
    | other => cases hk
theorem Lent.key {avs : List AV} {l : List (AV × Option (List AV) × Option (Nat × Nat × Nat))} (H : Lent st w m avs l) {k s o n : Nat} (hk : (l.map (·.2.2))[k]? = some (some (s, o, n))) : isMapKey s = false := by
  rw [List.getElem?_map] at hk
  cases hp : l[k]? with
  | none => simp [hp] at hk
  | some p =>
    have hlt : k < avs.length := by rw [← H.len]; exact (List.getElem?_eq_some_iff.1 hp).1
    have hL := H.each k avs[k] p (List.getElem?_eq_getElem hlt) hp
    simp only [hp, Option.map_some, qO1] at hk
    generalize avs[k] = v at hL
    cases hL with
    | ref hb hle =>
      simp only [qO1, qO4] at hk
      rw [← hk.1]; exact zb1 hb
    | msl => cases hk
    | fsl => cases hk
    | other => cases hk
theorem Lent.own (h : RelM c nt st a w m) {avs : List AV} {l : List (AV × Option (List AV) × Option (Nat × Nat × Nat))} (H : Lent st w m avs l) {tag : Nat} {b o : Nat}
    (ho : Own ⟨w, lentHeap tag 0 (l.map (·.2.1)), mpOf w.heap.size m (l.map (·.2.2)), tag, 1⟩ b o) :
    ∃ (k s off n : Nat) (blk : Blk), (l.map (·.2.2))[k]? = some (some (s, off, n)) ∧ aget s st.heap = some blk ∧ off + n ≤ blk.cells.length ∧ (m.base s).1 = b ∧ (m.base s).2 + off ≤ o ∧ o < (m.base s).2 + off + n := by
  obtain ⟨k, blk, hk, h1, h2, h3⟩ := ho
  simp only [zas, Nat.zero_le, if_true, Nat.sub_zero] at hk
  cases hl : (l.map (·.2.1))[k]? with
  | none => rw [hl] at hk; cases hk
  | some oc =>
    cases oc with
    | none => rw [hl] at hk; cases hk
    | some cells =>
      obtain ⟨s, g, off, n, blk', g1, g2, g3, g4, g5, g6, g7⟩ := H.place hl
      simp only [mpOf, g2] at h1 h2 h3
      exact ⟨k, s, off, n, blk', g2, g3, g5, h1, h2, h3⟩
theorem Lent.later (h : RelM c nt st a w m) {avs : List AV} {l : List (AV × Option (List AV) × Option (Nat × Nat × Nat))} (H : Lent st w m avs l) :
    Later (At st w m) ⟨w, lentHeap (st.tag + 1) 0 (l.map (·.2.1)), mpOf w.heap.size m (l.map (·.2.2)), st.tag + 1, 1⟩ := by
  refine ⟨Pres.refl _ _, fun b o _ ho => ?_, fun site blk' hs hok => ?_, fun σ hσ => okS_call 1 hσ, fun _ _ _ hb => hb.elim, rfl, rfl⟩
  · obtain ⟨k, s, off, n, blk, g1, g2, g3, g4, g5, g6⟩ := H.own h ho
    have := zbf h g2
    exact ⟨s, blk, g2, g4, by simp only []; omega, by simp only []; omega⟩
  · simp only [zas, Nat.zero_le, if_true, Nat.sub_zero] at hs
    split at hs
    · simp only [qO1] at hs
      subst hs
      exact (okS_lent hok).elim
    · cases hs
theorem Lent.pre (h : RelM c nt st a w m) {avs : List AV} {l : List (AV × Option (List AV) × Option (Nat × Nat × Nat))} (H : Lent st w m avs l) {xs : List Value} (hx : VRs (At st w m) false avs xs) :
    CallPre w (st.tag + 1) (l.map (·.1)) (l.map (·.2.1)) xs (mpOf w.heap.size m (l.map (·.2.2))) := by
  have hl := H.later h
  refine ⟨⟨rfl, fun _ _ hb => hb.elim⟩, h.globs.later hl, ?_, fun k b hb => ?_, fun k j b b' hkj hk hj heq o ho => ?_⟩
  ·
    have key : ∀ (n i : Nat), i + n = avs.length → VRs ⟨w, lentHeap (st.tag + 1) 0 (l.map (·.2.1)), mpOf w.heap.size m (l.map (·.2.2)), st.tag + 1, 1⟩ false ((l.map (·.1)).drop i) (xs.drop i) := by
      have lx := hx.length
      have ll := H.len
      intro n
      induction n with
      | zero =>
        intro i hi
        rw [List.drop_eq_nil_of_le (by simp; omega), List.drop_eq_nil_of_le (by omega)]
        exact .nil _
      | succ n ih =>
        intro i hi
        have hi' : i < avs.length := by omega
        have e1 : (l.map (·.1)).drop i = (l[i]'(by omega)).1 :: (l.map (·.1)).drop (i + 1) := by rw [List.drop_eq_getElem_cons (by simp; omega)]; simp
        have e2 : xs.drop i = xs[i]'(by omega) :: xs.drop (i + 1) := List.drop_eq_getElem_cons (by omega)
        rw [e1, e2]
        refine .cons (fun e => by cases e) ?_ (ih (i + 1) (by omega))
        have hL := H.each i avs[i] l[i] (List.getElem?_eq_getElem hi') (List.getElem?_eq_getElem (by omega))
        obtain ⟨x, hx1, hx2, _⟩ := hx.get (List.getElem?_eq_getElem hi')
        have hxe : xs[i]'(by omega) = x := by
          rw [List.getElem?_eq_getElem (by omega)] at hx1; simpa using hx1
        rw [hxe]
        have hav : avs[i]? = some avs[i] := List.getElem?_eq_getElem hi'
        have hlp : (l.map (·.2.2))[i]? = some (l[i]'(by omega)).2.2 := by simp [List.getElem?_map, List.getElem?_eq_getElem (show i < l.length by omega)]
        generalize l[i]'(by omega) = p at hL hlp ⊢
        generalize avs[i] = v at hL hx2 hav
        cases hL with
        | ref hb hle =>
          rename_i s g o n' cells
          obtain ⟨blk, b1, b2, rfl⟩ := zap hb
          have := hx2.ref_inv b1 b2
          subst this
          refine .ref (zay (st.tag + 1) 0) fun blk' _ _ => ?_
          simp only [mpOf, hlp, Nat.add_zero, and_self]
        | msl hb hle =>
          rename_i s g z o n' cells
          obtain ⟨blk, b1, b2, rfl⟩ := zap hb
          obtain ⟨vs, g1, g2⟩ := h.reads b1
          have hsl := hx2.msl_inv b1 b2
          have hre := zbf h b1
          have hvl := g1.length
          rcases hsl.2 with ⟨cap, rfl, hc, _⟩ | ⟨rfl, ad, rfl⟩
          · refine .isl (vs := (vs.drop o).take (n' * z)) rfl hc (by simp; omega) (fun k u hk => ?_) (((g1.drop o).take _).later hl)
            rw [List.getElem?_take] at hk
            split at hk
            · rename_i hkn
              rw [List.getElem?_drop] at hk
              refine ⟨by have := g2 _ u hk; rwa [← Nat.add_assoc] at this, fun hown => ?_⟩
              obtain ⟨k', s', off, n'', blk', q1, q2, q3, q4, q5, q6⟩ := H.own h (hown.resolve_right (fun hb => hb))
              have hne : s' ≠ s := zcl (zin H.free i s g z o n' hav) k' s' off n'' q1
              have hre' := zbf h q2
              exact h.apart s' s blk' blk hne q2 b1 q4 ((m.base s).2 + o + k) ⟨by simp only [] at q5; omega, by simp only [] at q6; omega, by omega, by omega⟩
            · cases hk
          · have : (blk.cells.drop o).take (0 * z) = [] := by simp
            rw [this]
            exact .islnil
        | fsl => exact hx2.fsl_isl.move hl (.inr rfl)
        | other ht => exact hx2.move hl (.inr ht)
    simpa using key avs.length 0 (by omega)
  · simp only [zas, Nat.zero_le, if_true, Nat.sub_zero] at hb
    split at hb
    · rename_i cells hc
      simp only [qO1] at hb
      subst hb
      obtain ⟨s, g, off, n, blk, g1, g2, g3, g4, g5, g6, g7⟩ := H.place hc
      simp only [mpOf, g2, g7, true_and]
      have hkey := H.key g2
      rcases h.blkAt g3 with ⟨q1, q2⟩ | ⟨cs, e, fr, r1, r2, r3, r4, r5, vs, r6, r7⟩
      · rw [q1] at g6; exact .inl (by rw [g6]; simp)
      · have rl := r6.length
        refine .inr ⟨cs, e, fr, r1, by omega, fun o o1 o2 => (r5 o (by omega) (by omega)).1, (vs.drop off).take n, by rw [g6]; exact ((r6.drop off).take n).later hl, fun j v hj => ?_⟩
        rw [List.getElem?_take] at hj
        split at hj
        · rw [List.getElem?_drop] at hj
          rw [Nat.add_assoc]
          exact r7 _ v hj
        · cases hj
    · cases hb
  · simp only [zas, Nat.zero_le, if_true, Nat.sub_zero] at hk hj
    split at hk
    · rename_i cells hc
      split at hj
      · rename_i cells' hc'
        obtain ⟨s, g, off, n, blk, g1, g2, g3, g4, g5, g6, g7⟩ := H.place hc
        obtain ⟨s', g', off', n', blk', g1', g2', g3', g4', g5', g6', g7'⟩ := H.place hc'
        simp only [mpOf, g2, g2'] at heq ho
        have hne := zcq H.apart k j s off n s' off' n' hkj g2 g2'
        have e1 := zbf h g3
        have e2 := zbf h g3'
        exact h.apart s s' blk blk' hne g3 g3' heq o ⟨by omega, by omega, by omega, by omega⟩
      · cases hj
    · cases hk
theorem zno (st : St) (s k : Nat) (cells : List AV) : aget k (putCells st s cells).heap = (aget k st.heap).map fun b => if s = k then { b with cells := cells } else b := by
  unfold putCells
  cases h : aget s st.heap with
  | none =>
    simp only
    by_cases e : s = k
    · subst e; simp [h]
    · cases aget k st.heap <;> simp [e]
  | some b =>
    simp only [zan]
    by_cases e : s = k
    · subst e; simp [h]
    · simp only [if_neg e]; cases aget k st.heap <;> simp [e]
theorem zew : ∀ {pl : List (Option (Nat × Nat × Nat))} {r : List (Option (List AV))} {st st' : St}, giveBack st pl r = some st' → lentApart pl = true →
    st'.env = st.env ∧ st'.next = st.next ∧ st'.tag = st.tag ∧ ∀ k b', aget k st'.heap = some b' → ∃ b, aget k st.heap = some b ∧ b'.stamp = b.stamp ∧
      ((b'.cells = b.cells ∧ ∀ (i o n : Nat), pl[i]? ≠ some (some (k, o, n))) ∨
       ∃ (i o n : Nat) (new : List AV), pl[i]? = some (some (k, o, n)) ∧ r[i]? = some (some new) ∧ new.length = n ∧ b'.cells = setR b.cells o new)
  | [], [], st, st', h, _ => by
    simp only [giveBack, qO1] at h
    subst h
    exact ⟨rfl, rfl, rfl, fun k b' hb => ⟨b', hb, rfl, .inl ⟨rfl, by simp⟩⟩⟩
  | [], x :: r, st, st', h, _ => by simp [giveBack] at h
  | none :: l, [], st, st', h, _ => by simp [giveBack] at h
  | none :: l, some c :: r, st, st', h, _ => by simp [giveBack] at h
  | none :: l, none :: r, st, st', h, ha => by
    simp only [giveBack] at h
    obtain ⟨h1, h2, h3, h4⟩ := zew h ha
    refine ⟨h1, h2, h3, fun k b' hb => ?_⟩
    obtain ⟨b, g1, g2, g3⟩ := h4 k b' hb
    refine ⟨b, g1, g2, ?_⟩
    rcases g3 with ⟨g3, g4⟩ | ⟨i, o, n, new, q1, q2, q3, q4⟩
    · exact .inl ⟨g3, fun i o n => by cases i with | zero => simp | succ i => simpa using g4 i o n⟩
    · exact .inr ⟨i + 1, o, n, new, by simpa using q1, by simpa using q2, q3, q4⟩
  | some (s, o, n) :: l, [], st, st', h, _ => by simp [giveBack] at h
  | some (s, o, n) :: l, none :: r, st, st', h, _ => by simp [giveBack] at h
  | some (s, o, n) :: l, some cells :: r, st, st', h, ha => by
    simp only [giveBack] at h
    simp only [lentApart, qO5] at ha
    split at h
    · rename_i b hb
      split at h
      · rename_i hlen
        obtain ⟨h1, h2, h3, h4⟩ := zew h ha.2
        have hp : (putCells st s (setR b.cells o cells)).env = st.env ∧ (putCells st s (setR b.cells o cells)).next = st.next ∧ (putCells st s (setR b.cells o cells)).tag = st.tag := by
          unfold putCells; rw [hb]; exact ⟨rfl, rfl, rfl⟩
        refine ⟨h1.trans hp.1, h2.trans hp.2.1, h3.trans hp.2.2, fun k b' hb' => ?_⟩
        obtain ⟨b1, g1, g2, g3⟩ := h4 k b' hb'
        rw [zno] at g1
        by_cases e : s = k
        · subst e
          simp only [hb, Option.map_some, if_true, qO1] at g1
          refine ⟨b, hb, by rw [g2, ← g1], .inr ⟨0, o, n, cells, by simp, by simp, hlen, ?_⟩⟩
          rcases g3 with ⟨g3, _⟩ | ⟨i, o', n', new, q1, _⟩
          · rw [g3, ← g1]
          · exact (zcl ha.1 i s o' n' q1 rfl).elim
        · cases hk : aget k st.heap with
          | none => simp [hk] at g1
          | some b0 =>
            simp only [hk, Option.map_some, if_neg e, qO1] at g1
            refine ⟨b0, rfl, by rw [g2, ← g1], ?_⟩
            rcases g3 with ⟨g3, g4⟩ | ⟨i, o', n', new, q1, q2, q3, q4⟩
            · refine .inl ⟨by rw [g3, ← g1], fun i o' n' => ?_⟩
              cases i with
              | zero => simp [e]
              | succ i => simpa using g4 i o' n'
            · exact .inr ⟨i + 1, o', n', new, by simpa using q1, by simpa using q2, q3, by rw [q4, ← g1]⟩
      · cases h
    · cases h
theorem zgc (h : RelM c nt st a w m) {avs : List AV} {l : List (AV × Option (List AV) × Option (Nat × Nat × Nat))} (H : Lent st w m avs l) {w' : World} {lent' : List (Option (List AV))} {r v : AV} {x : Value} {st1 st' : St}
    (hp : CallPost w w' (st.tag + 1) (l.map (·.2.1)) lent' (mpOf w.heap.size m (l.map (·.2.2))) r x) (hg : giveBack st (l.map (·.2.2)) lent' = some st1) {own : Bool} {d : Nat}
    (ha : adopt own st1 d r = (v, st')) (hdk : isMapKey d = false := by assumption) : ∃ m', RelM c nt st' a w' m' ∧ VR (At st' w' m') v x := by
  obtain ⟨e1, e2, e3, e4⟩ := zew hg H.apart
  try simp only at e1 e2 e3 e4
  have hown : ∀ b o, Own ⟨w, lentHeap (st.tag + 1) 0 (l.map (·.2.1)), mpOf w.heap.size m (l.map (·.2.2)), st.tag + 1, 1⟩ b o → Own (At st w m) b o := fun b o ho => by
    obtain ⟨k, s, off, n, blk, g1, g2, g3, g4, g5, g6⟩ := H.own h ho
    have := zbf h g2
    exact ⟨s, blk, g2, g4, by simp only []; omega, by simp only []; omega⟩
  have hpres : Pres (Own (At st w m)) w w' := hp.pres.mono fun b o _ ho => hown b o ho
  have hrow : ∀ k b' , aget k st1.heap = some b' → ∃ b, aget k st.heap = some b ∧ b'.stamp = b.stamp ∧ b'.cells.length = b.cells.length ∧
      ∀ s' : S, s'.w = w' → s'.m.base k = m.base k → s'.m.ext k = m.ext k → s'.m.B ≤ m.B → Later (At st w m) s' → (if isMapKey k then MapOK c s' k b' else CellsOK c s' k b') := by
    intro k b' hb'
    obtain ⟨b, g1, g2, g3⟩ := e4 k b' hb'
    have hre := zbf h g1
    rcases g3 with ⟨g3, g4⟩ | ⟨i, o, n, new, q1, q2, q3, q4⟩
    ·
      refine ⟨b, g1, g2, by rw [g3], fun s' hw hb he hB hl => ?_⟩
      have nown : ∀ o, (m.base k).2 ≤ o → o < (m.base k).2 + m.ext k → ¬ Own ⟨w, lentHeap (st.tag + 1) 0 (l.map (·.2.1)), mpOf w.heap.size m (l.map (·.2.2)), st.tag + 1, 1⟩ (m.base k).1 o := fun o o1 o2 ho => by
        obtain ⟨k', s, off, n, blk', p1, p2, p3, p4, p5, p6⟩ := H.own h ho
        have hne : s ≠ k := fun e => g4 k' off n (e ▸ p1)
        have := zbf h p2
        exact h.apart s k blk' b hne p2 g1 p4 o ⟨by omega, by omega, o1, o2⟩
      by_cases hk : isMapKey k = true
      · rw [if_pos hk]
        obtain ⟨ks, vs, es, n, y1, y2, y3, y4, y5, y6, y7, y8, y9⟩ := h.mapAt g1 hk
        simp only at y2 y3 y4 y5
        refine ⟨ks, vs, es, n, by rw [g3, y1], ?_, by rw [hb]; exact y3, by rw [he]; exact y4, by rw [hb]; exact y5, y6.move hl (.inl hB), y7.move hl (.inl hB), y8, y9⟩
        rw [hw, hb]
        exact hp.pres.other _ _ y2 (by intros; simp) (nown 0 (by omega) (by omega))
      rw [if_neg hk]
      have hk : isMapKey k = false := by simpa using hk
      unfold CellsOK
      rw [hw, hb, he, g3]
      rcases h.blkAt g1 with r0 | ⟨cs, e, fr, r1, r2, r3, r4, r5, vs, r6, r7⟩
      · exact .inl r0
      · obtain ⟨cs', t1, t2, t3⟩ := hp.pres.cells _ cs e fr r1
        have rl := r6.length
        refine .inr ⟨cs', e, fr, t1, by omega, r3, r4, r5, vs, r6.later hl, fun j v hj => ?_⟩
        have hj' := (List.getElem?_eq_some_iff.1 hj).1
        rw [t3 _ (nown _ (by omega) (by omega))]
        exact r7 j v hj
    ·
      have hk : isMapKey k = false := H.key q1
      have hnl : ∃ cells, (l.map (·.2.1))[i]? = some (some cells) := by
        have hlt : i < l.length := by have := (List.getElem?_eq_some_iff.1 q1).1; simpa using this
        cases hli : (l.map (·.2.1))[i]? with
        | none => rw [List.getElem?_eq_none_iff] at hli; simp at hli; omega
        | some oc =>
          cases oc with
          | none => have := hp.none i hli; rw [q2] at this; cases this
          | some cells => exact ⟨cells, rfl⟩
      obtain ⟨cells, hcells⟩ := hnl
      obtain ⟨s, g, o', n', blk, p0, p1, p2, p3, p4, p5, p6⟩ := H.place hcells
      rw [q1] at p1
      simp only [qO1, qO4] at p1
      obtain ⟨rfl, rfl, rfl⟩ := p1
      rw [g1] at p2
      simp only [qO1] at p2
      subst p2
      obtain ⟨new', us, y1, y2, y3, y4⟩ := hp.back i cells hcells
      rw [q2] at y1
      simp only [qO1] at y1
      subst y1
      have yl := y3.length
      simp only [mpOf, q1] at y4
      have hlen : b'.cells.length = b.cells.length := by rw [q4]; simp [setR]; omega
      refine ⟨b, g1, g2, hlen, fun s' hw hb he hB hl => ?_⟩
      rw [hk]
      show CellsOK c s' k b'
      unfold CellsOK
      rw [hw, hb, he]
      rcases h.blkAt g1 with ⟨r0, r0'⟩ | ⟨cs, e, fr, r1, r2, r3, r4, r5, vs, r6, r7⟩
      · exact .inl ⟨by rw [← List.length_eq_zero_iff, hlen, r0]; rfl, r0'⟩
      · obtain ⟨cs', t1, t2, t3⟩ := hp.pres.cells _ cs e fr r1
        have rl := r6.length
        refine .inr ⟨cs', e, fr, t1, by omega, by omega, r4, r5, vs.take o ++ us ++ vs.drop (o + us.length), by rw [q4]; exact (r6.later hl).setR (y3.vrs s' true) o, fun j v hj => ?_⟩
        by_cases h1 : j < o
        · rw [List.append_assoc, List.getElem?_append_left (by simp; omega), List.getElem?_take, if_pos h1] at hj
          rw [t3 _ (fun ho => ?_)]
          · exact r7 j v hj
          · obtain ⟨k', s', off, n'', blk', z1, z2, z3, z4, z5, z6⟩ := H.own h ho
            by_cases e : s' = k
            · subst e
              have hik : k' = i := by
                by_cases hik : k' = i
                · exact hik
                · exact (zcq H.apart k' i s' off n'' s' o n hik z1 q1 rfl).elim
              subst hik
              rw [q1] at z1
              simp only [qO1, qO4, true_and] at z1
              omega
            · have := zbf h z2
              exact h.apart s' k blk' b e z2 g1 z4 ((m.base k).2 + j) ⟨by omega, by omega, by omega, by omega⟩
        · by_cases h2 : j < o + us.length
          · rw [List.append_assoc, List.getElem?_append_right (by simp; omega), List.getElem?_append_left (by simp; omega)] at hj
            simp only [List.length_take, Nat.min_eq_left (show o ≤ vs.length by omega)] at hj
            have := y4 _ v hj
            rw [zax t1] at this
            rw [← this]; congr 1; omega
          · rw [List.getElem?_append_right (by simp; omega)] at hj
            simp only [List.length_append, List.length_take, Nat.min_eq_left (show o ≤ vs.length by omega), List.getElem?_drop] at hj
            rw [t3 _ (fun ho => ?_)]
            · refine r7 j v ?_
              rw [← hj]; congr 1; omega
            · have hj' := (List.getElem?_eq_some_iff.1 hj).1
              obtain ⟨k', s', off, n'', blk', z1, z2, z3, z4, z5, z6⟩ := H.own h ho
              by_cases e : s' = k
              · subst e
                have hik : k' = i := by
                  by_cases hik : k' = i
                  · exact hik
                  · exact (zcq H.apart k' i s' off n'' s' o n hik z1 q1 rfl).elim
                subst hik
                rw [q1] at z1
                simp only [qO1, qO4, true_and] at z1
                omega
              · have := zbf h z2
                exact h.apart s' k blk' b e z2 g1 z4 ((m.base k).2 + j) ⟨by omega, by omega, by omega, by omega⟩
  have hBw : c.w0.heap.size ≤ w.heap.size := h.pres.size
  have hpres0 : Pres c.A c.w0 w' := by
    refine h.pres.trans hp.pres (fun _ _ _ x => x) (fun b o hlt ho => ?_)
    obtain ⟨k, s, off, n, blk, g1, g2, g3, g4, g5, g6⟩ := H.own h ho
    have hre := zbf h g2
    rcases (h.blk s blk g2).mine (o := o) (by simp only; omega) (by simp only; omega) with y | y
    · simp only at y; omega
    · exact g4 ▸ y
  obtain ⟨rs, hres, hap⟩ := hp.res
  have plainCase : st' = st1 → v = r → ∃ m', RelM c nt st' a w' m' ∧ VR (At st' w' m') v x := by
    intro es ev
    subst es ev
    have ownNow : ∀ b o, Own (At st' w' m) b o → b < w.heap.size ∧ Own (At st w m) b o := by
      rintro b o ⟨k, b', h1, h2, h3, h4⟩
      obtain ⟨b0, g1, _⟩ := hrow k b' h1
      simp only at h2 h3 h4
      have := (h.blk k b0 g1).lt
      simp only at this
      exact ⟨by omega, k, b0, g1, h2, h3, h4⟩
    have hl : Later (At st w m) (At st' w' m) := by
      refine ⟨hpres, fun b o _ ho => (ownNow b o ho).2, fun site blk' hb _ => ?_, fun σ hσ => ?_, fun b o _ hb => .inr hb, rfl, rfl⟩
      · obtain ⟨b0, g1, g2, g3, _⟩ := hrow site blk' hb
        exact ⟨b0, g1, g2.symm, rfl, rfl, g3.symm⟩
      · simp only [At, e2, e3]; exact zez hσ (Nat.le_refl _)
    refine ⟨m, ⟨h.defers.pres hl.pres, h.size, by rw [e2]; exact h.next1, h.mB, fun k u hk => (h.env k u (by rw [← e1]; exact hk)).move hl (.inl (Nat.le_refl _)), hpres0, fun k b' hb => ?_, fun i j bi bj hij hi hj => ?_⟩, ?_⟩
    · obtain ⟨b0, g1, g2, g3, g4⟩ := hrow k b' hb
      have hB := h.blk k b0 g1
      exact ⟨by rw [g2]; exact hl.ok _ hB.1, fun e => hB.2.1 (by rw [← g2, e]; simp only [At, e3]), g4 _ rfl rfl rfl (Nat.le_refl _) hl⟩
    · obtain ⟨b0, g1, _⟩ := hrow i bi hi
      obtain ⟨b0', g1', _⟩ := hrow j bj hj
      exact h.apart i j b0 b0' hij g1 g1'
    · refine hres.vr rfl (by show m.B ≤ _; rw [h.mB.1]; exact hBw) rfl (fun rg hr b o hin ho => ?_)
      have := hres.new rg hr
      have h1 : b < w.heap.size := ho.elim (fun ho => (ownNow b o ho).1) (fun ho => Nat.lt_of_lt_of_le (h.mB.2.1 b o ho) hBw)
      have := hin.1
      omega
  unfold adopt at ha
  split at ha
  · rename_i hown1
    split at ha
    ·
      rename_i z n cells
      simp only [qO4] at ha
      obtain ⟨rfl, rfl⟩ := ha
      have hrowx : ∃ (bs : Nat × Nat) (ext : Nat) (vs : List Value), PVs cells vs ∧ cells.length = n * z ∧ (ext = 0 ∨ w.heap.size ≤ bs.1) ∧
          ((cells = [] ∧ ext = 0) ∨ ∃ (cs : Array Value) (e : TypeId) (fr : Nat × Nat), w'.heap[bs.1]? = some (.cells cs e fr) ∧ bs.2 + ext ≤ cs.size ∧ cells.length ≤ ext ∧
            (∀ o, bs.2 ≤ o → o < bs.2 + ext → ¬ (fr.1 ≤ o ∧ o < fr.2)) ∧ ∀ (j : Nat) (v : Value), vs[j]? = some v → cs[bs.2 + j]? = some v) ∧
          ((∃ cap, x = .slice (some ⟨bs.1, bs.2, none⟩) n cap ∧ n ≤ cap ∧ cap * z ≤ ext) ∨ (n = 0 ∧ ∃ ad, x = .slice ad 0 0)) := by
        cases hres with
        | one hr =>
          cases hr with
          | plain hr => exact hr.elim
          | fslnil => exact ⟨(0, 0), 0, [], .nil, by simp, .inl rfl, .inl ⟨rfl, rfl⟩, .inr ⟨rfl, _, rfl⟩⟩
          | fsl hr =>
            rename_i cap b o vs cs e fr
            have hle : n * z ≤ cap * z := Nat.mul_le_mul_right _ hr.hcap
            exact ⟨(b, o), cap * z, vs, hr.hv, hr.hlen, .inr hr.hB, .inr ⟨cs, e, fr, hr.hb, hr.hsz, by rw [hr.hlen]; exact hle, hr.hf, hr.hc⟩, .inl ⟨cap, rfl, hr.hcap, Nat.le_refl _⟩⟩
      obtain ⟨bs, ext, vs, hpv, hlen, hfresh, hmem, hval⟩ := hrowx
      have mb : ∀ j, j ≠ d → (m.set d bs ext).base j = m.base j ∧ (m.set d bs ext).ext j = m.ext j := fun j hj => by simp [Mp.set, hj]
      have md : (m.set d bs ext).base d = bs ∧ (m.set d bs ext).ext d = ext := by simp [Mp.set]
      have other : ∀ j b, j ≠ d → aget j (newBlk st1 d cells).2.heap = some b → aget j st1.heap = some b := fun j b hj hb => by
        simpa only [newBlk, zan, if_neg (Ne.symm hj)] using hb
      have hl : Later (At st w m) (At (newBlk st1 d cells).2 w' (m.set d bs ext)) := by
        refine ⟨hpres, fun b o hlt ho => ?_, fun site blk' hb hok => ?_, fun σ hσ => ?_, fun b o _ hb => .inr hb, rfl, rfl⟩
        · obtain ⟨k, b', h1, h2, h3, h4⟩ := ho
          simp only [At] at h1 h2 h3 h4 hlt
          by_cases e : k = d
          · subst e
            rw [md.1] at h2 h3 h4; rw [md.2] at h4
            clear hmem hval
            omega
          · rw [(mb k e).1] at h2 h3 h4; rw [(mb k e).2] at h4
            obtain ⟨b0, g1, _⟩ := hrow k b' (other k b' e h1)
            exact ⟨k, b0, g1, h2, h3, h4⟩
        · by_cases e : site = d
          · subst e
            simp only [At, newBlk, zan, if_true, qO1] at hb
            subst hb
            exact (zbr (by
              simp only [e2, e3] at hok
              exact zez hok (Nat.le_refl _))).elim
          · obtain ⟨b0, g1, g2, g3, _⟩ := hrow site blk' (other site blk' e hb)
            exact ⟨b0, g1, g2.symm, (mb site e).1, (mb site e).2, g3.symm⟩
        · simp only [At, newBlk, e2, e3]; exact zez hσ (by show st.next ≤ _; clear hmem hval; omega)
      refine ⟨m.set d bs ext, ⟨h.defers.pres hl.pres, h.size, by simp only [newBlk]; omega, h.mB, fun k u hk => (h.env k u (by rw [← e1]; exact hk)).move hl (.inl (Nat.le_refl _)), hpres0, fun k b' hb => ?_, fun i j bi bj hij hi hj => ?_⟩, ?_⟩
      · by_cases e : k = d
        · subst e
          simp only [newBlk, zan, if_true, qO1] at hb
          subst hb
          refine ⟨zay _ _, fun e => ?_, ?_⟩
          · have := h.next1
            simp only [newBlk, qO4] at e
            omega
          · refine cellsI hdk ?_
            unfold CellsOK
            simp only [At, md.1, md.2]
            by_cases hx0 : ext = 0
            · refine .inl ⟨?_, hx0⟩
              rcases hmem with g | ⟨cs, e, fr, g1, g2, g3, g4, g5⟩
              · exact g.1
              · exact List.eq_nil_of_length_eq_zero (by omega)
            · have hf : w.heap.size ≤ bs.1 := hfresh.resolve_left hx0
              have hf' : c.w0.heap.size ≤ bs.1 := Nat.le_trans hBw hf
              rcases hmem with g | ⟨cs, e, fr, g1, g2, g3, g4, g5⟩
              · exact (hx0 g.2).elim
              · exact .inr ⟨cs, e, fr, g1, g2, g3, fun _ _ => hf', fun o o1 o2 => ⟨g4 o o1 o2, .inl hf'⟩, vs, hpv.vrs _ true, g5⟩
        · obtain ⟨b0, g1, g2, g3, g4⟩ := hrow k b' (other k b' e hb)
          have hB := h.blk k b0 g1
          refine ⟨by rw [g2]; exact hl.ok _ hB.1, fun e' => ?_, g4 _ rfl (mb k e).1 (mb k e).2 (Nat.le_refl _) hl⟩
          show (m.set d bs ext).base k = _ ∧ (m.set d bs ext).ext k = _
          rw [(mb k e).1, (mb k e).2]
          exact hB.2.1 (by rw [← g2, e']; simp only [At, newBlk, e3])
      · have low : ∀ j bj, j ≠ d → aget j st1.heap = some bj → m.ext j = 0 ∨ (m.base j).1 < w.heap.size := fun j bj _ hj => by
          obtain ⟨b0, g1, _⟩ := hrow j bj hj
          exact (h.blk j b0 g1).lt
        by_cases ei : i = d
        · subst ei
          have hj' := other j bj (Ne.symm hij) hj
          have := low j bj (Ne.symm hij) hj'
          rw [md.1, md.2, (mb j (Ne.symm hij)).1, (mb j (Ne.symm hij)).2]
          intro e o ho
          clear hmem hval
          omega
        · by_cases ej : j = d
          · subst ej
            have hi' := other i bi ei hi
            have := low i bi ei hi'
            rw [md.1, md.2, (mb i ei).1, (mb i ei).2]
            intro e o ho
            clear hmem hval
            omega
          · obtain ⟨b0, g1, _⟩ := hrow i bi (other i bi ei hi)
            obtain ⟨b0', g1', _⟩ := hrow j bj (other j bj ej hj)
            rw [(mb i ei).1, (mb i ei).2, (mb j ej).1, (mb j ej).2]
            exact h.apart i j b0 b0' hij g1 g1'
      · refine .msl (zay _ _) ?_ fun blk' hb hs => ?_
        · rcases hval with ⟨cap, rfl, hc, _⟩ | ⟨rfl, ad, rfl⟩
          · exact ⟨rfl, hc⟩
          · exact ⟨rfl, Nat.le_refl _⟩
        · simp only [At, newBlk, zan, if_true, qO1] at hb
          subst hb
          refine ⟨by simp [hlen], ?_⟩
          rcases hval with ⟨cap, rfl, hc, hx⟩ | ⟨rfl, ad, rfl⟩
          · exact .inl ⟨cap, by simp only [At]; rw [md.1]; simp, hc, by simp only [At]; rw [md.2]; omega⟩
          · exact .inr ⟨rfl, ad, rfl⟩
    · simp only [qO4] at ha
      exact plainCase ha.2.symm ha.1.symm
  · simp only [qO4] at ha
    exact plainCase ha.2.symm ha.1.symm
end
end Go.Sim
end
section
namespace Go.Sim
open Go
def Dir.Ok (u : Dir) (s s' : S) : Prop := match u with
 | .plain => ∀ t v x, s.m.tk t v x → s'.m.tk t v x
 | .inn t => (∀ v x, VR s v x → s'.m.tk t v x) ∧ ∀ t' v x, t' ≠ t → s.m.tk t' v x → s'.m.tk t' v x
 | .out t => (∀ v x, s.m.tk t v x → VR s' v x) ∧ ∀ t' v x, t' ≠ t → s.m.tk t' v x → s'.m.tk t' v x
theorem zqe {u : Dir} {s s' : S} (h : u.Ok s s') {v : AV} {x : Value} (hv : VR s v x) (h1 : x.oneCell' = true) : VR s' (renU u v) x := by
 cases u with
 | plain => exact .junk _
 | inn t => exact .veil (h.1 v x hv) h1
 | out t => exact .junk _
theorem renS_ok {u : Dir} {s s' : S} (h : u.Ok s s') {t : Nat} {v : AV} {x : Value} (hv : s.m.tk t v x) (h1 : x.oneCell' = true) : VR s' (renS u t v) x := by
 cases u with
 | plain => exact .veil (h t v x hv) h1
 | inn t' =>
  simp only [renS]
  split
  ·exact .junk _
  ·rename_i e; exact .veil (h.2 t v x e hv) h1
 | out t' =>
  simp only [renS]
  split
  ·rename_i e
   subst e
   split
   ·exact h.1 v x hv
   ·exact .junk _
  ·rename_i e; exact .veil (h.2 t v x e hv) h1
theorem _root_.Go.Sim.isSlice.oneCell {n : Nat} {x : Value} (h : isSlice n x) : x.oneCell' = true := by
 cases x <;> first | rfl | exact h.elim
theorem renU_top (u : Dir) (v : AV) : (renU u v).top = true := by cases u <;> rfl
theorem renS_top (u : Dir) (t : Nat) (v : AV) : (renS u t v).top = true := by
 cases u with
 | plain => rfl
 | inn t' => simp only [renS]; split <;> rfl
 | out t' =>
  simp only [renS]
  split
  ·split
   ·rename_i h; exact h
   ·rfl
  ·rfl
structure Anew (s s' : S) (u : Dir) (pk : Pk) : Prop where
 w : ∀ (b o : Nat) (v : Value), s.w.cell? ⟨b, o, none⟩ = some v → ¬ Held s b o → s'.w.cell? ⟨b, o, none⟩ = some v ∧ ¬ Held s' b o
 ok : ∀ k g k' g', look k g pk = some (k', g') → okS s'.tag s'.next g'
 live : ∀ k g k' g', look k g pk = some (k', g') → ∀ blk', aget k' s'.heap = some blk' → blk'.stamp = g' →
  ∃ blk, aget k s.heap = some blk ∧ blk.stamp = g ∧ s'.m.base k' = s.m.base k ∧ s.m.ext k ≤ s'.m.ext k' ∧ blk.cells.length = blk'.cells.length
 gl : s'.m.gl = s.m.gl
 dir : u.Ok s s'
 maps : ∀ (r : Nat) (es : Array MapEntry) (n : Nat), s.w.heap[r]? = some (.map es n) → ¬ Held s r 0 → s'.w.heap[r]? = some (.map es n) ∧ ¬ Held s' r 0
 loop : ∀ (l : Nat) (rec : Loop), s.w.heap[l]? = some (.loop rec) → s'.w.heap[l]? = some (.loop rec)
theorem Anew.reads {s s' : S} {u : Dir} {pk : Pk} (h : Anew s s' u pk) {a : Addr} {vs : List Value} (hr : Reads s a vs) : Reads s' a vs :=
 fun k v hk => h.w _ _ v (hr k v hk).1 (hr k v hk).2
theorem zcj (u : Dir) (pk : Pk) : ∀ cs : List AV, (renL u pk cs).length = cs.length
 | [] => rfl
 | _ :: cs => by simp [renL, zcj u pk cs]
theorem zp0 (u : Dir) (pk : Pk) {c : AV} (h : c.top = true) : (ren u pk c).top = true := by
 cases c <;> simp [AV.top] at h <;> simp only [ren] <;> first | rfl | (split <;> first | rfl | exact renU_top _ _) | exact renS_top _ _ _
theorem zee (u : Dir) (pk : Pk) : ∀ cs : List AV, renL u pk cs = cs.map (ren u pk)
 | [] => by simp [renL]
 | c :: cs => by simp [renL, zee u pk cs]
theorem zgl (u : Dir) (pk : Pk) : ∀ {cs : List AV}, cs.all AV.top = true → (renL u pk cs).all AV.top = true
 | [], _ => by simp [renL]
 | c :: cs, h => by
  simp only [List.all_cons, qO5] at h
  simp only [renL, List.all_cons, zp0 u pk h.1, zgl u pk h.2, Bool.and_self]
mutual
theorem VR.ren {s s' : S} {u : Dir} {pk : Pk} (h : Anew s s' u pk) : ∀ {c : AV} {v : Value}, VR s c v → VR s' (Sim.ren u pk c) v
 | _, _, .junk v => by simp only [Sim.ren]; exact .junk v
 | _, _, .bool b => by simp only [Sim.ren]; exact .bool b
 | _, _, .int k n => by simp only [Sim.ren]; exact .int k n
 | _, _, .str b => by simp only [Sim.ren]; exact .str b
 | _, _, .nilp => by simp only [Sim.ren]; exact .nilp
 | _, _, .ref hok hl => by
   simp only [Sim.ren]
   split
   ·rename_i k' g' hk
    refine .ref (h.ok _ _ _ _ hk) fun blk' hb hs => ?_
    obtain ⟨blk, h1, h2, h3, _, _⟩ := h.live _ _ _ _ hk blk' hb hs
    rw [h3]; exact hl blk h1 h2
   ·exact zqe h.dir (.ref hok hl) rfl
 | _, _, .msl hok hv hl => by
   simp only [Sim.ren]
   split
   ·rename_i k' g' hk
    refine .msl (h.ok _ _ _ _ hk) hv fun blk' hb hs => ?_
    obtain ⟨blk, h1, h2, h3, h4, h5⟩ := h.live _ _ _ _ hk blk' hb hs
    have := hl blk h1 h2
    unfold SlOK at *
    rw [h3, ← h5]
    refine ⟨this.1, this.2.imp (fun ⟨cap, e1, e2, e3⟩ => ⟨cap, e1, e2, Nat.le_trans e3 h4⟩) id⟩
   ·exact zqe h.dir (.msl hok hv hl) hv.oneCell
 | _, _, .isl ha hcap hlen hr hv => by
   simp only [Sim.ren]
   exact .isl ha hcap (by rw [zcj]; exact hlen) (h.reads hr) (hv.ren h)
 | _, _, .islnil => by simp only [Sim.ren, renL]; exact .islnil
 | _, _, .fsl (sz := sz) (o := o) hB hb hsz hcap hlen hv hc hf => by
   simp only [Sim.ren]
   have h2 := hv.length
   have h3 := Nat.mul_le_mul_right sz hcap
   refine .isl rfl hcap hlen (fun k u hk => ?_) (hv.vrs s' true)
   have h1 := (List.getElem?_eq_some_iff.1 hk).1
   exact h.w _ _ _ (by rw [zax hb]; exact hc k u hk) (hf (o + k) (by omega) (by omega)).2
 | _, _, .fslnil => by simp only [Sim.ren]; exact .islnil
 | _, _, .nsl => by simp only [Sim.ren]; exact .nsl
 | _, _, .ipt ha hr hv => by simp only [Sim.ren]; exact .ipt ha (h.reads hr) (hv.ren h)
 | _, _, .agg hv => by simp only [Sim.ren]; exact .agg (hv.ren h)
 | _, _, .tup hv => by simp only [Sim.ren]; exact .tup (hv.ren h)
 | _, _, .nilI => by simp only [Sim.ren]; exact .nilI
 | _, _, .nilF => by simp only [Sim.ren]; exact .nilF
 | _, _, .nilM => by simp only [Sim.ren]; exact .nilM
 | _, _, .gref g => by simp only [Sim.ren]; exact .gref g
 | _, _, .err hg => by simp only [Sim.ren]; exact .err (by rw [h.gl]; exact hg)
 | _, _, .mref hok hl => by
   simp only [Sim.ren]
   split
   ·rename_i k' g' hk
    refine .mref (h.ok _ _ _ _ hk) fun blk' hb hs => ?_
    obtain ⟨blk, h1, h2, h3, _, _⟩ := h.live _ _ _ _ hk blk' hb hs
    rw [h3]; exact hl blk h1 h2
   ·exact zqe h.dir (.mref hok hl) rfl
 | _, _, .fn hv => by simp only [Sim.ren]; exact .fn (hv.ren h)
 | _, _, .imp hm hr hk hv tk tv => by simp only [Sim.ren]; exact .imp (h.maps _ _ _ hm hr).1 (h.maps _ _ _ hm hr).2 (hk.ren h) (hv.ren h) (zgl _ _ tk) (zgl _ _ tv)
 | _, _, .yld hl h1 h2 h3 hv => by simp only [Sim.ren]; exact .yld (h.loop _ _ hl) h1 h2 h3 (hv.ren h)
 | _, _, .veil ht h1 => by simp only [Sim.ren]; exact renS_ok h.dir ht h1
theorem VRs.ren {s s' : S} {u : Dir} {pk : Pk} (h : Anew s s' u pk) : ∀ {one : Bool} {cs : List AV} {vs : List Value}, VRs s one cs vs → VRs s' one (renL u pk cs) vs
 | _, _, _, .nil _ => by simp only [renL]; exact .nil _
 | _, _, _, .cons h1 hv hs => by
   simp only [renL]
   exact .cons (fun e => ⟨(h1 e).1, zp0 u pk (h1 e).2⟩) (hv.ren h) (hs.ren h)
end
def BlkM (c : Cx) (s : S) (k : Nat) (b : Blk) : Prop := if isMapKey k then MapOK c s k b else CellsOK c s k b
theorem BlkM.ren {c c' : Cx} {s s' : S} {u : Dir} {pk : Pk} (h : Anew s s' u pk) (hw : s'.w = s.w) {k k' : Nat} {b : Blk} {g' : Nat × Nat} (hk : isMapKey k' = isMapKey k)
  (hb : s'.m.base k' = s.m.base k) (he : s'.m.ext k' = s.m.ext k) (hnp : isMapKey k' = false → c'.np ≤ k' → k' < 1000000 → c'.w0.heap.size ≤ (s.m.base k).1)
  (hreg : ∀ o, (s.m.base k).2 ≤ o → o < (s.m.base k).2 + s.m.ext k → c'.w0.heap.size ≤ (s.m.base k).1 ∨ c'.A (s.m.base k).1 o)
  (hm : BlkM c s k b) : BlkM c' s' k' ⟨g', renL u pk b.cells⟩ := by
 unfold BlkM at *
 rw [hk]
 split
 ·rename_i hi
  rw [if_pos hi] at hm
  obtain ⟨ks, vs, es, n, g1, g2, g3, g4, g5, g6, g7, g8, g9⟩ := hm
  refine ⟨renL u pk ks, renL u pk vs, es, n, by simp [g1, renL, Sim.ren], by rw [hb, hw]; exact g2, by rw [hb]; exact g3, by rw [he]; exact g4, ?_, g6.ren h, g7.ren h, zgl u pk g8, zgl u pk g9⟩
  rw [hb]
  exact hreg 0 (by omega) (by omega)
 ·rename_i hi
  rw [if_neg hi] at hm
  rcases hm with hm | ⟨cs, e, fr, g1, g2, g3, g4, g5, vs, g6, g7⟩
  ·exact .inl ⟨by simp [hm.1, renL], by rw [he]; exact hm.2⟩
  ·refine .inr ⟨cs, e, fr, by rw [hb, hw]; exact g1, by rw [hb, he]; exact g2, by rw [he]; simpa [zcj] using g3, fun a1 a2 => by rw [hb]; exact hnp (by rw [hk]; simpa using hi) a1 a2, fun o o1 o2 => ?_, vs, g6.ren h, fun j v hj => by rw [hb]; exact g7 j v hj⟩
   rw [hb] at o1 o2 ⊢
   rw [he] at o2
   exact ⟨(g5 o o1 o2).1, hreg o o1 o2⟩
theorem zdj {k : Nat} {g : Nat × Nat} {k' : Nat} {g' : Nat × Nat} : ∀ {pk : Pk}, look k g pk = some (k', g') → (k, g, k', g') ∈ pk
 | [], h => by simp [look] at h
 | (k0, g0, k1, g1) :: l, h => by
  simp only [look] at h
  split at h
  ·rename_i e
   obtain ⟨rfl, rfl⟩ := e
   cases h
   exact List.mem_cons_self
  ·exact List.mem_cons_of_mem _ (zdj h)
def byNew (k' : Nat) : Pk → Option Nat
 | [] => none
 | (k0, _, k1, _) :: l => if k1 = k' then some k0 else byNew k' l
theorem zbb : ∀ {l : List Nat}, distinct l = true → l.Nodup
 | [], _ => List.nodup_nil
 | k :: l, h => by
  simp only [distinct, qO5, Bool.not_eq_true'] at h
  refine List.nodup_cons.2 ⟨?_, zbb h.2⟩
  intro hm
  have := List.contains_iff_mem.2 hm
  rw [h.1] at this
  cases this
theorem zbs {k : Nat} {g : Nat × Nat} {k' : Nat} {g' : Nat × Nat} : ∀ {pk : Pk}, (pk.map (·.2.2.1)).Nodup → (k, g, k', g') ∈ pk → byNew k' pk = some k
 | [], _, h => by simp at h
 | (k0, g0, k1, g1) :: l, hd, h => by
  simp only [List.map_cons, List.nodup_cons] at hd
  simp only [byNew]
  rcases List.mem_cons.1 h with e | e
  ·cases e; simp
  ·rw [if_neg, zbs hd.2 e]
   rintro rfl
   exact hd.1 (List.mem_map.2 ⟨_, e, rfl⟩)
theorem zkk {u : Dir} {st : St} {pk : Pk} {tag k' : Nat} {b' : Blk} : ∀ {l0 : Pk} {l : List (Option (List AV))}, packed u st pk l0 = some l → aget k' (hHeap tag l) = some b' →
  ∃ k g g' b, (k, g, k', g') ∈ l0 ∧ aget k st.heap = some b ∧ b.stamp = g ∧ b' = ⟨(tag, 0), renL u pk b.cells⟩
 | [], l, h, hb => by simp only [packed, qO1] at h; subst h; simp [hHeap, aget] at hb
 | (k, g, k1, g1) :: l0, l, h, hb => by
  simp only [packed] at h
  split at h
  ·rename_i b hk
   split at h
   ·rename_i hg
    obtain ⟨r, hr, e⟩ := Option.map_eq_some_iff.1 h
    subst e
    simp only [hHeap, aget] at hb
    split at hb
    ·rename_i e
     subst e
     cases hb
     exact ⟨k, g, g1, b, List.mem_cons_self, hk, hg, rfl⟩
    ·obtain ⟨k2, g2, g3, b2, m1, m2, m3, m4⟩ := zkk hr hb
     exact ⟨k2, g2, g3, b2, List.mem_cons_of_mem _ m1, m2, m3, m4⟩
   ·cases h
  ·cases h
theorem zbj {rd : Option (List Nat)} {V : Pol} {st : St} {g' : Nat × Nat} : ∀ {n : Nat} {wl : List (AV × Nat)} {pk0 pk : Pk}, visit rd V st g' n wl pk0 = some pk → (∀ x ∈ pk0, x.2.2.2 = g' ∧ okKey rd x.1 = true) → ∀ x ∈ pk, x.2.2.2 = g' ∧ okKey rd x.1 = true
 | n, [], pk0, pk, h, h0 => by
  unfold visit at h
  cases h; exact h0
 | 0, _ :: _, pk0, pk, h, h0 => by unfold visit at h; cases h
 | n + 1, (v, p) :: rest, pk0, pk, h, h0 => by
  unfold visit at h
  split at h
  ·split at h
   ·exact zbj h h0
   ·split at h
    ·rename_i hok
     split at h
     ·split at h
      ·refine zbj h fun x hx => ?_
       rcases List.mem_append.1 hx with e | e
       ·exact h0 x e
       ·rw [List.mem_singleton.1 e]
        rw [qO5] at hok
        exact ⟨rfl, hok.1⟩
      ·exact zbj h h0
     ·exact zbj h h0
    ·exact zbj h h0
  ·exact zbj h h0
def mpk (m : Mp) (pk : Pk) (B : Nat) (ban : Nat → Nat → Prop) (tk : Nat → AV → Value → Prop) : Mp :=
 {base := fun k' => match byNew k' pk with | some k => m.base k | none => (0, 0)
  ext := fun k' => match byNew k' pk with | some k => m.ext k | none => 0
  B := B
  ban := ban
  gl := m.gl
  tk := tk }
variable {c : Cx} {nt : Nat} {st : St} {a : Act} {w : World} {m : Mp}
structure Packed (u : Dir) (st : St) (m : Mp) (pk : Pk) (tag : Nat) (l : List (Option (List AV))) (s' : S) : Prop where
 news : (pk.map (·.2.2.1)).Nodup
 olds : (pk.map (·.1)).Nodup
 keys : ∀ x ∈ pk, isMapKey x.1 = isMapKey x.2.2.1
 stamps : ∀ x ∈ pk, x.2.2.2 = (tag, 0)
 blk : ∀ k' b', aget k' s'.heap = some b' → ∃ k g b, (k, g, k', (tag, 0)) ∈ pk ∧ aget k st.heap = some b ∧ b.stamp = g ∧ b' = ⟨(tag, 0), renL u pk b.cells⟩ ∧ s'.m.base k' = m.base k ∧ s'.m.ext k' = m.ext k
theorem zjm {u : Dir} {pk : Pk} {tag B : Nat} {ban : Nat → Nat → Prop} {tk : Nat → AV → Value → Prop} {l : List (Option (List AV))} (hp : pkOk pk = true) (hs : ∀ x ∈ pk, x.2.2.2 = (tag, 0)) (hl : packed u st pk pk = some l) :
  Packed u st m pk tag l ⟨w, hHeap tag l, mpk m pk B ban tk, tag, 1⟩ := by
 simp only [pkOk, qO5, List.all_eq_true, beq_iff_eq] at hp
 refine ⟨zbb hp.1.2, zbb hp.1.1, hp.2, hs, fun k' b' hb => ?_⟩
 obtain ⟨k, g, g', b, m1, m2, m3, m4⟩ := zkk hl hb
 have e : g' = (tag, 0) := hs _ m1
 subst e
 exact ⟨k, g, b, m1, m2, m3, m4, by simp [mpk, zbs (zbb hp.1.2) m1], by simp [mpk, zbs (zbb hp.1.2) m1]⟩
theorem Packed.own {u : Dir} {pk : Pk} {tag B : Nat} {ban : Nat → Nat → Prop} {l : List (Option (List AV))} {s' : S} (h : Packed u st m pk tag l s') {b o : Nat} (ho : Own s' b o) : Own (At st w m) b o := by
 obtain ⟨k', b', h1, h2, h3, h4⟩ := ho
 obtain ⟨k, g, b0, m1, m2, m3, m4, m5, m6⟩ := h.blk k' b' h1
 exact ⟨k, b0, m2, by rw [← m5]; exact h2, by rw [← m5]; exact h3, by rw [← m5, ← m6]; exact h4⟩
theorem Packed.anew {u : Dir} {pk : Pk} {tag : Nat} {l : List (Option (List AV))} {s' : S} (h : Packed u st m pk tag l s') (hw : s'.w = w) (ht : s'.tag = tag) (hn : s'.next = 1)
  (hban : ∀ b o, s'.m.ban b o → Held (At st w m) b o) (hgl : s'.m.gl = m.gl) (hdir : u.Ok (At st w m) s') : Anew (At st w m) s' u pk := by
 have held : ∀ b o, Held s' b o → Held (At st w m) b o := fun b o hx => hx.elim (fun x => .inl (h.own (B := 0) (ban := fun _ _ => False) x)) (fun x => hban b o x)
 refine ⟨fun b o v hc hh => ⟨by rw [hw]; exact hc, fun hx => hh (held _ _ hx)⟩, fun k g k' g' hk => ?_, fun k g k' g' hk blk' hb hs => ?_, hgl, hdir, fun r es n hm hh => ⟨by rw [hw]; exact hm, fun hx => hh (held _ _ hx)⟩, fun l rec hl => by rw [hw]; exact hl⟩
 ·rw [show g' = (tag, 0) from h.stamps _ (zdj hk), ht, hn]
  exact zay tag 0
 ·obtain ⟨k2, g2, b2, m1, m2, m3, m4, m5, m6⟩ := h.blk k' blk' hb
  have hm := zdj hk
  rw [show g' = (tag, 0) from h.stamps _ hm] at hm
  have e : (k2, g2, k', (tag, 0)) = (k, g, k', (tag, 0)) := by
   have := zbs h.news m1
   rw [zbs h.news hm] at this
   cases this
   have key : ∀ {l : Pk} {x y : Nat × (Nat × Nat) × Nat × (Nat × Nat)}, (l.map (·.1)).Nodup → x ∈ l → y ∈ l → x.1 = y.1 → x = y := by
    intro l
    induction l with
    | nil => intro x y _ hx; cases hx
    | cons z l ih =>
     intro x y hd hx hy e
     simp only [List.map_cons, List.nodup_cons] at hd
     rcases List.mem_cons.1 hx with rfl | hx' <;> rcases List.mem_cons.1 hy with rfl | hy'
     ·rfl
     ·exact (hd.1 (e ▸ List.mem_map_of_mem hy')).elim
     ·exact (hd.1 (e ▸ List.mem_map_of_mem hx')).elim
     ·exact ih hd.2 hx' hy' e
   exact key h.olds m1 hm rfl
  cases e
  exact ⟨b2, m2, m3, m5, Nat.le_of_eq m6.symm, by rw [m4]; simp [zcj]⟩
theorem Packed.apart (hR : RelM c nt st a w m) {u : Dir} {pk : Pk} {tag : Nat} {l : List (Option (List AV))} {s' : S} (h : Packed u st m pk tag l s') :
  ∀ k j b b', k ≠ j → aget k s'.heap = some b → aget j s'.heap = some b' → (s'.m.base k).1 = (s'.m.base j).1 →
   ∀ o, ¬ ((s'.m.base k).2 ≤ o ∧ o < (s'.m.base k).2 + s'.m.ext k ∧ (s'.m.base j).2 ≤ o ∧ o < (s'.m.base j).2 + s'.m.ext j) := by
 intro k j b b' hne hk hj
 obtain ⟨k0, g0, b0, m1, m2, m3, m4, m5, m6⟩ := h.blk k b hk
 obtain ⟨j0, g1, b1, n1, n2, n3, n4, n5, n6⟩ := h.blk j b' hj
 rw [m5, m6, n5, n6]
 refine hR.apart k0 j0 b0 b1 ?_ m2 n2
 rintro rfl
 have key : ∀ {l : Pk} {x y : Nat × (Nat × Nat) × Nat × (Nat × Nat)}, (l.map (·.1)).Nodup → x ∈ l → y ∈ l → x.1 = y.1 → x = y := by
  intro l
  induction l with
  | nil => intro x y _ hx; cases hx
  | cons z l ih =>
   intro x y hd hx hy e
   simp only [List.map_cons, List.nodup_cons] at hd
   rcases List.mem_cons.1 hx with rfl | hx' <;> rcases List.mem_cons.1 hy with rfl | hy'
   ·rfl
   ·exact (hd.1 (e ▸ List.mem_map_of_mem hy')).elim
   ·exact (hd.1 (e ▸ List.mem_map_of_mem hx')).elim
   ·exact ih hd.2 hx' hy' e
 have := key h.olds m1 n1 rfl
 cases this
 exact hne rfl
end Go.Sim
end
section
namespace Go.Sim
open Go
abbrev HS (w : World) (tag : Nat) (lent : List (Option (List AV))) (m : Mp) : S := ⟨w, hHeap tag lent, m, tag, 1⟩
abbrev HCx (w : World) (tag : Nat) (lent : List (Option (List AV))) (m : Mp) : Cx := ⟨w, Own (HS w tag lent m), 1000000, m.base, m.ext, m.ban, m.gl, m.tk⟩
structure HMem (c : Cx) (s : S) (tag : Nat) : Prop where
 blk : ∀ k b, aget k s.heap = some b → b.stamp = (tag, 0) ∧ BlkM c s k b
 apart : ∀ k j b b', k ≠ j → aget k s.heap = some b → aget j s.heap = some b' → (s.m.base k).1 = (s.m.base j).1 →
  ∀ o, ¬ ((s.m.base k).2 ≤ o ∧ o < (s.m.base k).2 + s.m.ext k ∧ (s.m.base j).2 ≤ o ∧ o < (s.m.base j).2 + s.m.ext j)
structure HPre (w : World) (tag : Nat) (args : List AV) (lent : List (Option (List AV))) (vs : List Value) (m : Mp) : Prop where
 mB : m.B = w.heap.size ∧ ∀ b o, m.ban b o → b < w.heap.size
 glob : GlobS (HS w tag lent m)
 args : VRs (HS w tag lent m) false args vs
 mem : HMem (HCx w tag lent m) (HS w tag lent m) tag
structure HPost (w w' : World) (tag : Nat) (args : List AV) (lent lent' : List (Option (List AV))) (m m' : Mp) (r : AV) (x : Value) : Prop where
 mB : m'.B = m.B ∧ m'.ban = m.ban ∧ m'.gl = m.gl ∧ m'.tk = m.tk
 pres : Pres (Own (HS w tag lent m)) w w'
 res : VR (HS w' tag lent' m') r x
 mem : HMem (HCx w tag lent m) (HS w' tag lent' m') tag
 root : ∀ k ∈ rootKeys args, ∀ b, aget k (hHeap tag lent') = some b → m'.base k = m.base k ∧ m'.ext k = m.ext k
def CallOKH (P : Program) (f : Nat) (tag : Nat) (args : List AV) (lent : List (Option (List AV))) (r : AV) (lent' : List (Option (List AV))) : Prop :=
 ∀ (w : World) (vs : List Value) (m : Mp), HPre w tag args lent vs m → GlobP P m.gl → Invokes P f vs.toArray w fun x w' => ∃ m', HPost w w' tag args lent lent' m m' r x
def fenR (r : Option Nat) : Fence := { Fence.wide with round := r }
def CallOKY (P : Program) (y : YInfo) (tag : Nat) (args : List AV) (lent : List (Option (List AV))) (r : AV) (lent' : List (Option (List AV))) : Prop :=
 ∀ (w : World) (us : List Value) (m : Mp) (l : Nat) (rec : Loop), HPre w tag args lent (us ++ y.slots.map fun k => rec.tmps.getD k undef) m → GlobP P m.gl → args.all AV.top = true → w.heap[l]? = some (.loop rec) → rec.state = .ready → rec.pending = none → YRec y rec →
  ∃ fn tmps assign body, (Instr.yield l us.toArray).run P w = .ok (.round l fn tmps assign body) w ∧
   ∀ r0 n, RoundIn (fenR r0) n P l fn tmps assign body w fun e w' => ∃ x, e = .returned x ∧ ∃ m', HPost w w' tag args lent lent' m m' r x
structure OracleOK (P : Program) (Γ : Oracle) : Prop where
 one : ∀ f tag args lent r lent', Γ f tag args lent = some (r, lent') → CallOK P f tag args lent r lent'
 all : ∀ f tag args lent r lent', Γ (f + 1000000000) tag (.mapd [] [] :: args) lent = some (r, lent') → CallOKH P f tag args lent r lent'
 ent : ∀ f tag y cs args lent r lent', Γ (f + 1000000000) tag (.mapd [] [] :: .yld y cs :: args) lent = some (r, lent') → ∀ as w, (callFunc f as).run P w = .ok (.enter f as) w
 rnd : ∀ (y : YInfo) tag args lent r lent', Γ (y.num + 1000000000) tag (.mapd [.nilM] [] :: .yld y [] :: args) lent = some (r, lent') → CallOKY P y tag args lent r lent'
variable {c : Cx} {nt : Nat} {st : St} {a : Act} {w : World} {m : Mp}
theorem RelM.blkM (h : RelM c nt st a w m) {k : Nat} {b : Blk} (hb : aget k st.heap = some b) : BlkM c (At st w m) k b := (h.blk k b hb).2.2
theorem Packed.mem (hR : RelM c nt st a w m) {u : Dir} {pk : Pk} {tag : Nat} {l : List (Option (List AV))} {m' : Mp} (h : Packed u st m pk tag l (HS w tag l m'))
  (hban : ∀ b o, m'.ban b o → Held (At st w m) b o) (hgl : m'.gl = m.gl) (hdir : u.Ok (At st w m) (HS w tag l m')) {c' : Cx} (hnp : c'.np = 1000000)
  (hreg : ∀ k b, aget k (hHeap tag l) = some b → ∀ o, (m'.base k).2 ≤ o → o < (m'.base k).2 + m'.ext k → c'.w0.heap.size ≤ (m'.base k).1 ∨ c'.A (m'.base k).1 o) :
  HMem c' (HS w tag l m') tag := by
 have hA := h.anew (w := w) rfl rfl rfl hban hgl hdir
 refine ⟨fun k' b' hb => ?_, h.apart hR⟩
 obtain ⟨k, g, b, m1, m2, m3, m4, m5, m6⟩ := h.blk k' b' hb
 subst m4
 refine ⟨rfl, ?_⟩
 refine (hR.blkM m2).ren hA rfl (h.keys _ m1).symm m5 m6 (fun _ h1 h2 => by rw [hnp] at h1; omega) fun o o1 o2 => ?_
 have := hreg k' _ hb o
 simp only at m5 m6 o1 o2 this ⊢
 rw [m5, m6] at this
 exact this o1 o2
end Go.Sim
end
section
namespace Go.Sim
open Go
theorem bring_big {d : Nat} {pk : Pk} {n p : Nat} (h : pk.find? (fun x => x.2.2.1 == p) = none) : 1000000 ≤ bring d pk n p := by
 cases n with
 | zero => simp only [bring, nest]; omega
 | succ n =>
  simp only [bring, h]
  split <;> simp only [nest] <;> omega
theorem zp4 {pk : Pk} {roots : List Nat} {k : Nat} (h : (if roots.contains k then pk.find? (fun x => x.2.2.1 == k) else none) = none) :
  (pk.filter fun x => roots.contains x.2.2.1).find? (fun x => x.2.2.1 == k) = none := by
 rw [List.find?_eq_none]
 intro x hx hk
 rw [List.mem_filter] at hx
 simp only [beq_iff_eq] at hk
 rw [hk] at hx
 rw [if_pos hx.2, List.find?_eq_none] at h
 exact h x hx.1 (by simpa using hk)
theorem zhj {st : St} {d tag : Nat} {pk : Pk} {roots : List Nat} : ∀ {r : List (Option (List AV))} {bk : Pk}, backPk st d tag pk roots r = some bk →
  ∀ x ∈ bk, x.2.1 = (tag, 0) ∧ ((roots.contains x.1 = true ∧ ∃ y ∈ pk, y.2.2.1 = x.1 ∧ x.2.2.1 = y.1 ∧ x.2.2.2 = y.2.1) ∨ (x.2.2.2 = (st.tag, st.next) ∧ 1000000 ≤ x.2.2.1))
 | [], bk, h, x, hx => by simp only [backPk, qO1] at h; subst h; cases hx
 | none :: r, bk, h, x, hx => by simp [backPk] at h
 | some [] :: r, bk, h, x, hx => by simp [backPk] at h
 | some (c :: cells) :: r, bk, h, x, hx => by
  cases c with
  | mref k' g' =>
   simp only [backPk, qO3, qO6] at h
   obtain ⟨rest, h1, h2⟩ := h
   split at h2
   ·rename_i y hy
    cases h2
    rcases List.mem_cons.1 hx with rfl | hx'
    ·split at hy
     ·rename_i hr
      have hm := List.mem_of_find?_eq_some hy
      have he := List.find?_some hy
      simp only [beq_iff_eq] at he
      exact ⟨rfl, .inl ⟨hr, y, hm, he, rfl, rfl⟩⟩
     ·cases hy
    ·exact zhj h1 x hx'
   ·rename_i hy
    cases h2
    rcases List.mem_cons.1 hx with rfl | hx'
    ·exact ⟨rfl, .inr ⟨rfl, bring_big (zp4 hy)⟩⟩
    ·exact zhj h1 x hx'
  | _ => simp [backPk] at h
inductive backPkLike (tag : Nat) : Pk → List (Option (List AV)) → Prop
 | nil : backPkLike tag [] []
 | cons {k' : Nat} {h : Nat × Nat} {g : Nat × Nat} {k2 : Nat} {g2 : Nat × Nat} {cells : List AV} {bk : Pk} {r : List (Option (List AV))} (hs : backPkLike tag bk r) :
   backPkLike tag ((k', g, k2, g2) :: bk) (some (.mref k' h :: cells) :: r)
theorem zft {st : St} {d tag : Nat} {pk : Pk} {roots : List Nat} : ∀ {r : List (Option (List AV))} {bk : Pk}, backPk st d tag pk roots r = some bk → backPkLike tag bk r
 | [], bk, h => by simp only [backPk, qO1] at h; subst h; exact .nil
 | none :: r, bk, h => by simp [backPk] at h
 | some [] :: r, bk, h => by simp [backPk] at h
 | some (c :: cells) :: r, bk, h => by
  cases c with
  | mref k' g' =>
   simp only [backPk, qO3, qO6] at h
   obtain ⟨rest, h1, h2⟩ := h
   split at h2
   ·cases h2; exact .cons (zft h1)
   ·cases h2; exact .cons (zft h1)
  | _ => simp [backPk] at h
theorem zev {u : Dir} {tag : Nat} {pk : Pk} {k : Nat} {b : Blk} : ∀ {bk : Pk} {r : List (Option (List AV))}, backPkLike tag bk r → (bk.map (·.1)).Nodup → aget k (backHeap u pk bk r) = some b →
  ∃ k' g' g cells, (k', g', k, g) ∈ bk ∧ aget k' (hHeap tag r) = some ⟨(tag, 0), cells⟩ ∧ b = ⟨g, renL u pk cells⟩
 | _, _, .nil, _, h => by simp [backHeap, aget] at h
 | _, _, .cons (k' := k1) (h := g1) (g := g0) (k2 := k2) (g2 := g2) (cells := cells) hs, hd, h => by
  simp only [List.map_cons, List.nodup_cons] at hd
  simp only [backHeap, aget] at h
  split at h
  ·rename_i e
   subst e
   cases h
   exact ⟨k1, g0, g2, cells, List.mem_cons_self, by simp [hHeap, aget], rfl⟩
  ·obtain ⟨k', g', g, cs, m1, m2, m3⟩ := zev hs hd.2 h
   refine ⟨k', g', g, cs, List.mem_cons_of_mem _ m1, ?_, m3⟩
   simp only [hHeap, aget]
   rw [if_neg]
   ·exact m2
   ·rintro rfl
    exact hd.1 (List.mem_map.2 ⟨_, m1, rfl⟩)
theorem zkj {st : St} {roots : List Nat} {tag k' : Nat} {g' : Nat × Nat} {k : Nat} {g : Nat × Nat} {cells : List AV} : ∀ {bk : Pk} {r : List (Option (List AV))}, backPkLike tag bk r → backOk st roots bk r = true → (bk.map (·.1)).Nodup →
  (k', g', k, g) ∈ bk → aget k' (hHeap tag r) = some ⟨(tag, 0), cells⟩ → roots.contains k' = true → lenOf st k = some cells.length
 | _, _, .nil, _, _, h, _, _ => by cases h
 | _, _, .cons (k' := k1) (h := g1) (g := g0) (k2 := k2) (g2 := g2) (cells := cs) hs, ho, hd, h, ha, hr => by
  simp only [List.map_cons, List.nodup_cons] at hd
  simp only [backOk, qO5] at ho
  simp only [hHeap, aget] at ha
  rcases List.mem_cons.1 h with e | e
  ·cases e
   rw [if_pos rfl] at ha
   cases ha
   have := ho.1
   rw [if_pos hr] at this
   simpa using this
  ·rw [if_neg] at ha
   ·exact zkj hs ho.2 hd.2 e ha hr
   ·rintro rfl
    exact hd.1 (List.mem_map.2 ⟨_, e, rfl⟩)
theorem zhv {α : Type} (k : Nat) (f : Nat → Bool) {v : α} : ∀ (l : List (Nat × α)), aget k (l.filter fun p => f p.1) = some v → aget k l = some v ∧ f k = true
 | l, h => ⟨zdy k f l h, by
   cases hf : f k with
   | true => rfl
   | false =>
    exfalso
    have : ∀ (l : List (Nat × α)), aget k (l.filter fun p => f p.1) = none := fun l => by
     induction l with
     | nil => rfl
     | cons p l ih =>
      simp only [List.filter_cons]
      split
      ·rename_i hp
       obtain ⟨i, w⟩ := p
       simp only [aget]
       rw [if_neg (fun e => by simp only at hp; rw [e, hf] at hp; cases hp)]
       exact ih
      ·exact ih
    rw [this l] at h
    cases h⟩
theorem zk6 {k : Nat} : ∀ {pk : Pk}, (∀ x ∈ pk, x.2.2.1 ≠ k) → byNew k pk = none
 | [], _ => rfl
 | (k0, g0, k1, g1) :: l, h => by
  simp only [byNew]
  rw [if_neg (h _ List.mem_cons_self)]
  exact zk6 fun x hx => h x (List.mem_cons_of_mem _ hx)
theorem Pk.key {l : Pk} {x y : Nat × (Nat × Nat) × Nat × (Nat × Nat)} (hd : (l.map (·.1)).Nodup) (hx : x ∈ l) (hy : y ∈ l) (e : x.1 = y.1) : x = y := by
 induction l with
 | nil => cases hx
 | cons z l ih =>
  simp only [List.map_cons, List.nodup_cons] at hd
  rcases List.mem_cons.1 hx with rfl | hx' <;> rcases List.mem_cons.1 hy with rfl | hy'
  ·rfl
  ·exact (hd.1 (e ▸ List.mem_map_of_mem hy')).elim
  ·exact (hd.1 (e ▸ List.mem_map_of_mem hx')).elim
  ·exact ih hd.2 hx' hy'
theorem Pk.key2 {l : Pk} {x y : Nat × (Nat × Nat) × Nat × (Nat × Nat)} (hd : (l.map (·.2.2.1)).Nodup) (hx : x ∈ l) (hy : y ∈ l) (e : x.2.2.1 = y.2.2.1) : x = y := by
 induction l with
 | nil => cases hx
 | cons z l ih =>
  simp only [List.map_cons, List.nodup_cons] at hd
  rcases List.mem_cons.1 hx with rfl | hx' <;> rcases List.mem_cons.1 hy with rfl | hy'
  ·rfl
  ·exact (hd.1 (e ▸ List.mem_map_of_mem hy')).elim
  ·exact (hd.1 (e ▸ List.mem_map_of_mem hx')).elim
  ·exact ih hd.2 hx' hy'
theorem zf9 {u : Dir} {st : St} {pk : Pk} {k : Nat} {g : Nat × Nat} {k' : Nat} {g' : Nat × Nat} : ∀ {l0 : Pk} {l : List (Option (List AV))}, packed u st pk l0 = some l → (k, g, k', g') ∈ l0 → ∃ b, aget k st.heap = some b ∧ b.stamp = g
 | [], l, _, h => by cases h
 | (z1, z2, z3, z4) :: l0, l, hl, hx => by
  simp only [packed] at hl
  split at hl
  ·rename_i bb hbb
   split at hl
   ·rename_i hg0
    obtain ⟨r0, hr0, _⟩ := Option.map_eq_some_iff.1 hl
    rcases List.mem_cons.1 hx with e | e
    ·cases e
     exact ⟨bb, hbb, hg0⟩
    ·exact zf9 hr0 e
   ·cases hl
  ·cases hl
theorem look_of {k : Nat} {g : Nat × Nat} {k' : Nat} {g' : Nat × Nat} : ∀ {bk : Pk}, (bk.map (·.1)).Nodup → (k, g, k', g') ∈ bk → look k g bk = some (k', g')
 | [], _, hx => by cases hx
 | (z1, z2, z3, z4) :: bk, hd, hx => by
  simp only [List.map_cons, List.nodup_cons] at hd
  simp only [look]
  rcases List.mem_cons.1 hx with e | e
  ·cases e; simp
  ·rw [if_neg]
   ·exact look_of hd.2 e
   ·rintro ⟨rfl, _⟩
    exact hd.1 (List.mem_map.2 ⟨_, e, rfl⟩)
theorem BlkM.mine {c : Cx} {s : S} {k : Nat} {b : Blk} (h : BlkM c s k b) {o : Nat} (h1 : (s.m.base k).2 ≤ o) (h2 : o < (s.m.base k).2 + s.m.ext k) : c.w0.heap.size ≤ (s.m.base k).1 ∨ c.A (s.m.base k).1 o := by
 unfold BlkM at h
 split at h
 ·obtain ⟨ks, vs, es, n, _, _, g1, g2, g3, _⟩ := h
  have : o = 0 := by omega
  subst this
  exact g3
 ·rcases h with h | ⟨cs, e, fr, _, _, _, _, g, _⟩
  ·omega
  ·exact (g o h1 h2).2
section
variable {P : Program} {c : Cx} {nt : Nat} {st : St} {a : Act} {w : World} {m : Mp}
def backSt (st : St) (pk bk : Pk) (r : List (Option (List AV))) : St :=
 {st with
  heap := backHeap (.out st.tag) bk bk r ++ st.heap.filter fun p => !(pk.map (·.1)).contains p.1 && !(bk.map (·.2.2.1)).contains p.1
  next := st.next + 1 }
def kept (st : St) (w : World) (m : Mp) (s0 : S) (b o : Nat) : Prop := (Own (At st w m) b o ∧ ¬ Own s0 b o) ∨ m.ban b o
def mbk (m m1 : Mp) (bk : Pk) : Mp :=
 {base := fun k => match byNew k bk with | some k' => m1.base k' | none => m.base k
  ext := fun k => match byNew k bk with | some k' => m1.ext k' | none => m.ext k
  B := m.B
  ban := m.ban
  gl := m.gl
  tk := m.tk }
def tkIn (st : St) (w : World) (m : Mp) (t : Nat) (v : AV) (x : Value) : Prop := if t = st.tag then VR (At st w m) v x else m.tk t v x
def mpre (st : St) (w : World) (m : Mp) (pk : Pk) (l : List (Option (List AV))) : Mp :=
 mpk m pk w.heap.size (kept st w m (HS w (st.tag + 1) l (mpk m pk w.heap.size (fun _ _ => False) m.tk))) (tkIn st w m)
theorem mpre_dir {st : St} {w : World} {m : Mp} {pk : Pk} {l l' : List (Option (List AV))} : (Dir.inn st.tag).Ok (At st w m) (HS w (st.tag + 1) l' (mpre st w m pk l)) := by
 refine ⟨fun v x hv => ?_, fun t' v x hne hv => ?_⟩
 ·show tkIn st w m st.tag v x
  rw [tkIn, if_pos rfl]; exact hv
 ·show tkIn st w m t' v x
  rw [tkIn, if_neg hne]; exact hv
theorem hCall_pre (h : RelM c nt st a w m) {pk : Pk} {l : List (Option (List AV))} {args : List AV} {vs : List Value}
  (hpk : pkOk pk = true) (hst : ∀ y ∈ pk, y.2.2.2 = (st.tag + 1, 0)) (hl : packed (.inn st.tag) st pk pk = some l) (hv : VRs (At st w m) false args vs) :
  HPre w (st.tag + 1) (args.map (ren (.inn st.tag) pk)) l vs (mpre st w m pk l) := by
 have hP : Packed (.inn st.tag) st m pk (st.tag + 1) l (HS w (st.tag + 1) l (mpre st w m pk l)) := zjm hpk hst hl
 have hban : ∀ b o, (mpre st w m pk l).ban b o → Held (At st w m) b o := fun b o hb => hb.elim (fun x => .inl x.1) .inr
 have hA := hP.anew (w := w) rfl rfl rfl hban rfl mpre_dir
 refine ⟨⟨rfl, fun b o hb => ?_⟩, fun g v hv => ⟨hA.w _ _ _ (h.globs g v hv).1.1 (h.globs g v hv).1.2, (h.globs g v hv).2⟩, ?_, hP.mem h hban rfl mpre_dir rfl fun k b hb o o1 o2 => .inr ⟨k, b, hb, rfl, o1, o2⟩⟩
 ·rcases hb with ⟨⟨k, b0, h1, h2, h3, h4⟩, _⟩ | hb
  ·have := (h.blk k b0 h1).lt
   simp only at this h2 h3 h4
   omega
  ·exact Nat.lt_of_lt_of_le (h.mB.2.1 b o hb) h.pres.size
 ·rw [← zee]
  exact hv.ren hA
theorem hCall_back (h : RelM c nt st a w m) {pk bk : Pk} {l r : List (Option (List AV))} {d : Nat} {args : List AV} {v : AV} {x : Value} {w' : World} {m1 : Mp}
  (hpk : pkOk pk = true) (hst : ∀ y ∈ pk, y.2.2.2 = (st.tag + 1, 0)) (hl : packed (.inn st.tag) st pk pk = some l)
  (hbk : backPk st d (st.tag + 1) pk (rootKeys args) r = some bk) (hbo : pkOk bk = true) (hok : backOk st (rootKeys args) bk r = true)
  (hp : HPost w w' (st.tag + 1) args l r (mpre st w m pk l) m1 v x) :
  ∃ m2, RelM c nt (backSt st pk bk r) a w' m2 ∧ VR (At (backSt st pk bk r) w' m2) (ren (.out st.tag) bk v) x := by
 have hP : Packed (.inn st.tag) st m pk (st.tag + 1) l (HS w (st.tag + 1) l (mpre st w m pk l)) := zjm hpk hst hl
 have own0 : ∀ b o, Own (HS w (st.tag + 1) l (mpre st w m pk l)) b o → Own (At st w m) b o := fun b o ho => hP.own (B := 0) (ban := fun _ _ => False) ho
 have hbo' := hbo
 simp only [pkOk, qO5, List.all_eq_true, beq_iff_eq] at hbo
 obtain ⟨⟨hbo1, hbo2⟩, hbo3⟩ := hbo
 have hb1 := zbb hbo1
 have hb2 := zbb hbo2
 have hlike := zft hbk
 have hmem := zhj hbk
 have hBw : c.w0.heap.size ≤ w.heap.size := h.pres.size
 have hww : w.heap.size ≤ w'.heap.size := hp.pres.size
 have mineOwn : ∀ b o, Own (At st w m) b o → c.w0.heap.size ≤ b ∨ c.A b o := by
  rintro b o ⟨k, b0, h1, h2, h3, h4⟩
  exact h2 ▸ (h.blk k b0 h1).mine h3 h4
 have split : ∀ k b, aget k (backSt st pk bk r).heap = some b →
   (∃ k' g cells, (k', (st.tag + 1, 0), k, g) ∈ bk ∧ aget k' (hHeap (st.tag + 1) r) = some ⟨(st.tag + 1, 0), cells⟩ ∧ b = ⟨g, renL (.out st.tag) bk cells⟩ ∧ (mbk m m1 bk).base k = m1.base k' ∧ (mbk m m1 bk).ext k = m1.ext k') ∨
   (aget k st.heap = some b ∧ (∀ y ∈ pk, y.1 ≠ k) ∧ (mbk m m1 bk).base k = m.base k ∧ (mbk m m1 bk).ext k = m.ext k) := by
  intro k b hb
  simp only [backSt, zc4, Option.or_eq_some_iff] at hb
  rcases hb with hb | ⟨_, hb⟩
  ·obtain ⟨k', g', g, cells, q1, q2, q3⟩ := zev hlike hb1 hb
   have := (hmem _ q1).1
   simp only at this
   subst this
   exact .inl ⟨k', g, cells, q1, q2, q3, by simp [mbk, zbs hb2 q1], by simp [mbk, zbs hb2 q1]⟩
  ·obtain ⟨q1, q2⟩ := zhv k (fun k => !(pk.map (·.1)).contains k && !(bk.map (·.2.2.1)).contains k) _ hb
   simp only [qO5, Bool.not_eq_true'] at q2
   have q3 : ∀ y ∈ pk, y.1 ≠ k := fun y hy e => by
    have : (pk.map (·.1)).contains k = true := List.contains_iff_mem.2 (e ▸ List.mem_map_of_mem hy)
    rw [q2.1] at this; cases this
   have q4 : byNew k bk = none := zk6 fun y hy e => by
    have : (bk.map (·.2.2.1)).contains k = true := List.contains_iff_mem.2 (e ▸ List.mem_map_of_mem (f := fun y => y.2.2.1) hy)
    rw [q2.2] at this; cases this
   exact .inr ⟨q1, q3, by simp [mbk, q4], by simp [mbk, q4]⟩
 have region : ∀ k' b, aget k' (hHeap (st.tag + 1) r) = some b → ∀ o, (m1.base k').2 ≤ o → o < (m1.base k').2 + m1.ext k' →
   w.heap.size ≤ (m1.base k').1 ∨ Own (HS w (st.tag + 1) l (mpre st w m pk l)) (m1.base k').1 o :=
  fun k' b hb o o1 o2 => (hp.mem.blk k' b hb).2.mine o1 o2
 have apartOld : ∀ k b, aget k st.heap = some b → (∀ y ∈ pk, y.1 ≠ k) → ∀ o, (m.base k).2 ≤ o → o < (m.base k).2 + m.ext k → ¬ Own (HS w (st.tag + 1) l (mpre st w m pk l)) (m.base k).1 o := by
  intro k b hb hn o o1 o2 ⟨k', b', t1, t2, t3, t4⟩
  obtain ⟨k0, g0, b0, u1, u2, u3, u4, u5, u6⟩ := hP.blk k' b' t1
  simp only at t2 t3 t4 u5 u6
  rw [u5] at t2 t3 t4
  rw [u6] at t4
  exact h.apart k0 k b0 b (fun e => hn _ u1 e) u2 hb t2 o ⟨t3, t4, o1, o2⟩
 have root : ∀ k' k g cells, (k', (st.tag + 1, 0), k, g) ∈ bk → aget k' (hHeap (st.tag + 1) r) = some ⟨(st.tag + 1, 0), cells⟩ → okS st.tag st.next g →
   ∃ b0, aget k st.heap = some b0 ∧ b0.stamp = g ∧ m1.base k' = m.base k ∧ m1.ext k' = m.ext k ∧ b0.cells.length = cells.length := by
  intro k' k g cells q1 q2 hg
  rcases (hmem _ q1).2 with ⟨q3, y, q4, q5, q6, q7⟩ | ⟨q3, _⟩
  ·simp only at q3 q5 q6 q7
   have hroot := hp.root k' (List.contains_iff_mem.1 q3) _ q2
   have hbn : byNew k' pk = some k := by
    obtain ⟨y1, y2, y3, y4⟩ := y
    simp only at q5 q6 q7
    subst q5 q6
    exact zbs hP.news q4
   have hcell := zkj hlike hok hb1 q1 q2 q3
   simp only [lenOf, Option.map_eq_some_iff] at hcell
   obtain ⟨b0, c1, c2⟩ := hcell
   refine ⟨b0, c1, ?_, ?_, ?_, c2⟩
   ·obtain ⟨y1, y2, y3, y4⟩ := y
    simp only at q5 q6 q7
    subst q5 q6
    subst q7
    obtain ⟨b1, z1, z2⟩ := zf9 hl q4
    rw [c1] at z1
    cases z1
    exact z2
   ·rw [hroot.1]; simp [mpre, mpk, hbn]
   ·rw [hroot.2]; simp [mpre, mpk, hbn]
  ·simp only at q3
   rw [q3] at hg
   exact (zbr hg).elim
 have ownNow : ∀ b o, b < w.heap.size → Own (At (backSt st pk bk r) w' (mbk m m1 bk)) b o → Own (At st w m) b o := by
  rintro b o hlt ⟨k, b', h1, h2, h3, h4⟩
  simp only at h1 h2 h3 h4
  rcases split k b' h1 with ⟨k', g, cells, q1, q2, q3, q4, q5⟩ | ⟨q1, q2, q3, q4⟩
  ·rw [q4] at h2 h3 h4
   rw [q5] at h4
   rcases region k' _ q2 o h3 h4 with y | y
   ·omega
   ·exact h2 ▸ own0 _ _ y
  ·rw [q3] at h2 h3 h4
   rw [q4] at h4
   exact ⟨k, b', q1, h2, h3, h4⟩
 have hlater : Later (At st w m) (At (backSt st pk bk r) w' (mbk m m1 bk)) := by
  refine ⟨hp.pres.mono fun b o _ ho => own0 b o ho, ownNow, fun site blk' hb hok' => ?_, fun σ hσ => zez hσ (Nat.le_succ _), fun b o _ hb => .inr hb, rfl, rfl⟩
  rcases split site blk' hb with ⟨k', g, cells, q1, q2, q3, q4, q5⟩ | ⟨q1, q2, q3, q4⟩
  ·subst q3
   obtain ⟨b0, r1, r2, r3, r4, r5⟩ := root k' site g cells q1 q2 hok'
   exact ⟨b0, r1, r2, q4.trans r3, q5.trans r4, by rw [r5, zcj]⟩
  ·exact ⟨blk', q1, rfl, q3, q4, rfl⟩
 have hdir : (Dir.out st.tag).Ok (HS w' (st.tag + 1) r m1) (At (backSt st pk bk r) w' (mbk m m1 bk)) := by
  have e : m1.tk = tkIn st w m := hp.mB.2.2.2
  refine ⟨fun v x hv => ?_, fun t' v x hne hv => ?_⟩
  ·have hv' : m1.tk st.tag v x := hv
   rw [e, tkIn, if_pos rfl] at hv'
   exact hv'.move hlater (.inl (Nat.le_refl _))
  ·have hv' : m1.tk t' v x := hv
   rw [e, tkIn, if_neg hne] at hv'
   exact hv'
 have hanew : Anew (HS w' (st.tag + 1) r m1) (At (backSt st pk bk r) w' (mbk m m1 bk)) (.out st.tag) bk := by
  have held : ∀ b o, Held (At (backSt st pk bk r) w' (mbk m m1 bk)) b o → Held (HS w' (st.tag + 1) r m1) b o := by
   intro b o hx
   rcases hx with ⟨k, b', h1, h2, h3, h4⟩ | hx
   ·simp only at h1 h2 h3 h4
    rcases split k b' h1 with ⟨k', g, cells, q1, q2, q3, q4, q5⟩ | ⟨q1, q2, q3, q4⟩
    ·rw [q4] at h2 h3 h4
     rw [q5] at h4
     exact .inl ⟨k', _, q2, h2, h3, h4⟩
    ·rw [q3] at h2 h3 h4
     rw [q4] at h4
     refine .inr ?_
     show m1.ban b o
     rw [hp.mB.2.1]
     exact .inl ⟨⟨k, b', q1, h2, h3, h4⟩, h2 ▸ apartOld k b' q1 q2 o h3 h4⟩
   ·refine .inr ?_
    show m1.ban b o
    rw [hp.mB.2.1]
    exact .inr hx
  refine ⟨fun b o u hc hh => ⟨hc, fun hx => hh (held _ _ hx)⟩, fun k g k' g' hk => ?_, fun k g k' g' hk blk' hb hs => ?_, hp.mB.2.2.1.symm, hdir, fun r es n hm hh => ⟨hm, fun hx => hh (held _ _ hx)⟩, fun _ _ hl => hl⟩
  ·rcases (hmem _ (zdj hk)).2 with ⟨q3, y, q4, q5, q6, q7⟩ | ⟨q3, _⟩
   ·simp only at q5 q6 q7
    obtain ⟨y1, y2, y3, y4⟩ := y
    simp only at q5 q6 q7
    subst q7
    obtain ⟨b0, z1, z2⟩ := zf9 hl q4
    have := (h.blk y1 b0 z1).1
    rw [z2] at this
    exact zez this (Nat.le_succ _)
   ·simp only at q3
    rw [q3]
    exact zay _ _
  ·simp only at hb
   rcases split k' blk' hb with ⟨k0, g0, cells, q1, q2, q3, q4, q5⟩ | ⟨q1, q2, q3, q4⟩
   ·have := Pk.key2 hb2 (zdj hk) q1 rfl
    cases this
    exact ⟨_, q2, rfl, q4, Nat.le_of_eq q5.symm, by rw [q3]; simp [zcj]⟩
   ·have hbn : byNew k' bk = some k := zbs hb2 (zdj hk)
    simp only [backSt, zc4, Option.or_eq_some_iff] at hb
    exfalso
    rcases hb with hb | ⟨_, hb⟩
    ·obtain ⟨k0, g0, g1, cells, z1, z2, z3⟩ := zev hlike hb1 hb
     rcases (hmem _ z1).2 with ⟨y1, y, y2, y3, y4, y5⟩ | ⟨y1, y2⟩
     ·exact q2 y y2 (by simp only at y4; exact y4.symm)
     ·simp only at y1 y2
      have := (h.blk k' blk' q1).1
      rw [z3, y1] at this
      exact zbr this
    ·have := (zhv k' (fun k => !(pk.map (·.1)).contains k && !(bk.map (·.2.2.1)).contains k) _ hb).2
     simp only [qO5, Bool.not_eq_true'] at this
     have h2 : (bk.map (·.2.2.1)).contains k' = true := List.contains_iff_mem.2 (List.mem_map_of_mem (f := fun y => y.2.2.1) (zdj hk))
     rw [this.2] at h2; cases h2
 refine ⟨mbk m m1 bk, ⟨h.defers.pres hlater.pres, h.size, Nat.le_succ_of_le h.next1, h.mB, fun k u hk => (h.env k u hk).move hlater (.inl (Nat.le_refl _)), ?_, fun k b hb => ?_, fun i j bi bj hij hi hj => ?_⟩, hp.res.ren hanew⟩
 ·refine h.pres.trans hp.pres (fun _ _ _ x => x) (fun b o hlt ho => ?_)
  rcases mineOwn b o (own0 b o ho) with y | y
  ·omega
  ·exact y
 ·rcases split k b hb with ⟨k', g, cells, q1, q2, q3, q4, q5⟩ | ⟨q1, q2, q3, q4⟩
  ·subst q3
   refine ⟨?_, fun hz => ?_, ?_⟩
   ·exact hanew.ok k' (st.tag + 1, 0) k g (look_of hb1 q1)
   ·simp only at hz
    have hg : okS st.tag st.next g := by rw [hz]; exact .inr ⟨rfl, h.next1⟩
    obtain ⟨b0, r1, r2, r3, r4, r5⟩ := root k' k g cells q1 q2 hg
    have := (h.blk k b0 r1).2.1 (by rw [r2]; exact hz)
    exact ⟨q4.trans (r3.trans this.1), q5.trans (r4.trans this.2)⟩
   ·have hM := (hp.mem.blk k' _ q2).2
    have hkk : isMapKey k = isMapKey k' := (hbo3 _ q1).symm
    by_cases hnew : cells = [] ∧ m1.ext k' = 0 ∧ isMapKey k = false
    ·rw [hnew.2.2]
     exact .inl ⟨by simp [hnew.1, renL], q5.trans hnew.2.1⟩
    ·refine BlkM.ren hanew rfl hkk q4 q5 (fun hnm n1 n2 => ?_) (fun o o1 o2 => ?_) hM
     ·rcases (hmem _ q1).2 with ⟨y1, y, y2, y3, y4, y5⟩ | ⟨y1, y2⟩
      ·simp only at y1 y3 y4 y5
       have hg : okS st.tag st.next g := by
        obtain ⟨b0, z1, z2⟩ := zf9 hl y2
        have := (h.blk _ b0 z1).1
        rw [z2, ← y5] at this
        exact this
       obtain ⟨b0, r1, r2, r3, r4, r5⟩ := root k' k g cells q1 q2 hg
       have hb0 := (h.blk k b0 r1).2.2
       rw [if_neg (by simpa using hnm)] at hb0
       rcases hb0 with ⟨e1, e2⟩ | ⟨_, _, _, _, _, _, e4, _⟩
       ·exfalso
        refine hnew ⟨?_, r4.trans e2, hnm⟩
        rw [e1] at r5
        exact List.length_eq_zero_iff.1 r5.symm
       ·rw [r3]
        exact e4 n1 n2
      ·simp only at y2; omega
     ·rcases region k' _ q2 o o1 o2 with y | y
      ·exact .inl (Nat.le_trans hBw y)
      ·exact mineOwn _ _ (own0 _ _ y)
  ·refine (h.blk k b q1).keep hlater rfl q3 q4 (Nat.le_refl _) (fun cs e fr hc => ?_) fun es n hm g1 g2 => ?_
   ·obtain ⟨cs', k1, k2, k3⟩ := hp.pres.cells _ cs e fr hc
    exact ⟨cs', k1, k2, fun o o1 o2 => k3 o (apartOld k b q1 q2 o o1 o2)⟩
   ·simp only at g1 g2
    exact hp.pres.other _ _ hm (by intros; simp) (apartOld k b q1 q2 0 (by omega) (by omega))
 ·rcases split i bi hi with ⟨k', g, cells, q1, q2, q3, q4, q5⟩ | ⟨q1, q2, q3, q4⟩ <;>
  rcases split j bj hj with ⟨j', g', cells', p1, p2, p3, p4, p5⟩ | ⟨p1, p2, p3, p4⟩
  ·rw [q4, q5, p4, p5]
   refine hp.mem.apart k' j' _ _ ?_ q2 p2
   rintro rfl
   have := Pk.key hb1 q1 p1 rfl
   cases this
   exact hij rfl
  ·rw [q4, q5, p3, p4]
   intro e o ho
   rcases region k' _ q2 o ho.1 ho.2.1 with y | y
   ·have := (h.blk j bj p1).lt
    simp only at this
    rcases this with z | z
    ·omega
    ·rw [e] at y; omega
   ·rw [e] at y
    exact apartOld j bj p1 p2 o ho.2.2.1 ho.2.2.2 y
  ·rw [p4, p5, q3, q4]
   intro e o ho
   rcases region j' _ p2 o ho.2.2.1 ho.2.2.2 with y | y
   ·have := (h.blk i bi q1).lt
    simp only at this
    rcases this with z | z
    ·omega
    ·rw [← e] at y; omega
   ·rw [← e] at y
    exact apartOld i bi q1 q2 o ho.1 ho.2.1 y
  ·rw [q3, q4, p3, p4]
   exact h.apart i j bi bj hij q1 p1
end
end Go.Sim
end
section
namespace Go.Sim
open Go Go.MapKept
section
variable {P : Program} {c : Cx} {nt : Nat} {st : St} {a : Act} {w : World} {m : Mp}
def isW : TypeDesc → Bool
 | .struct _ => true
 | _ => false
def KeySame (P : Program) (w : World) (kty : Nat) (d : TypeDesc) (x x' : Value) (b : Bool) : Prop := match isW d with
 | true => (Op.equal kty x x').run P w = .ok b w
 | false => Instr.sameNow d x x' = some b
def FindAt (P : Program) (w : World) (kty : Nat) (d : TypeDesc) (x : Value) (es : List MapEntry) (i : Nat) (r : Option (Nat × Value)) : Prop := match isW d with
 | true => (Instr.findAsking kty x es i).run P w = .ok r w
 | false => Instr.findNow d x es i = some r
theorem FindAt.nil {kty : Nat} {d : TypeDesc} {x : Value} {i : Nat} : FindAt P w kty d x [] i none := by
 unfold FindAt
 cases isW d <;> simp [Instr.findAsking, Instr.findNow]
theorem FindAt.hit {kty : Nat} {d : TypeDesc} {x : Value} {e : MapEntry} {es : List MapEntry} {i : Nat} (h : KeySame P w kty d x e.key true) : FindAt P w kty d x (e :: es) i (some (i, e.val)) := by
 unfold KeySame at h
 unfold FindAt
 cases hw : isW d <;> rw [hw] at h <;> simp only at h ⊢
 ·simp [Instr.findNow, h]
 ·simp [Instr.findAsking, h]
theorem FindAt.miss {kty : Nat} {d : TypeDesc} {x : Value} {e : MapEntry} {es : List MapEntry} {i : Nat} {r : Option (Nat × Value)} (h : KeySame P w kty d x e.key false) (hr : FindAt P w kty d x es (i + 1) r) : FindAt P w kty d x (e :: es) i r := by
 unfold KeySame at h
 unfold FindAt at hr ⊢
 cases hw : isW d <;> rw [hw] at h hr <;> simp only at h hr ⊢
 ·simp [Instr.findNow, h, hr]
 ·simp [Instr.findAsking, h, hr]
theorem FindAt.run {kty : Nat} {d : TypeDesc} {x : Value} {es : List MapEntry} {r : Option (Nat × Value)} (hd : P.underlying kty = some d) (h : FindAt P w kty d x es 0 r) : (Instr.findKey kty x es).run P w = .ok r w := by
 unfold FindAt at h
 cases hw : isW d <;> rw [hw] at h <;> simp only at h
 ·exact run_findKey hd h
 ·cases d <;> simp only [isW, Bool.false_eq_true] at hw
  cases es with
  | nil =>
   simp [Instr.findAsking] at h
   subst h
   simp [Instr.findKey, run_underlying hd, Instr.findNow, Result.andThen]
  | cons e es => simpa [Instr.findKey, run_underlying hd, Instr.findNow, Instr.sameNow, Result.andThen] using h
theorem zkh {s : S} : ∀ {xs ys : List AV} {vs us : List Value} {b : Bool}, VRs s true xs vs → VRs s true ys us → keyInts xs ys = some b → b = true → us = vs ∧ (us.zip vs).all (fun (x, y) => Instr.sameBits 9999 x y) = true
 | [], [], _, _, _, .nil _, .nil _, _, _ => ⟨rfl, rfl⟩
 | [], _ :: _, _, _, _, _, _, h, _ => by simp [keyInts] at h
 | c :: _, [], _, _, _, _, _, h, _ => by cases c <;> simp [keyInts] at h
 | c :: xs, c' :: ys, _, _, b, .cons _ hv hs, .cons _ hv' hs', h, hb => by
  subst hb
  cases c <;> cases c' <;> simp only [keyInts] at h <;> try (cases h; done)
  split at h
  ·rename_i e
   subst e
   cases hv; cases hv'
   simp only [Option.map_eq_some_iff, qO5, decide_eq_true_eq] at h
   obtain ⟨r, h1, rfl, h3⟩ := h
   obtain ⟨rfl, h5⟩ := zkh hs hs' h1 h3
   refine ⟨rfl, ?_⟩
   simp only [List.zip_cons_cons, List.all_cons, qO5]
   exact ⟨by simp [Instr.sameBits], h5⟩
  ·cases h
theorem zf3 {L : Nat → Option TI} (hL : LOK P L) {s : S} {t : TD} {d : TypeDesc} {kty : Nat} {j : TI} (hj : L kty = some j) (hjd : j.desc = t) (hu : P.underlying kty = some d) (hd : TDOK P t d) {k k' : AV} {x x' : Value} (hx : VR s k x) (hx' : VR s k' x') {b : Bool} (h : keyEq L t k k' = some b) :
  KeySame P w kty d x x' b ∧ (b = true → Instr.sameBits 10000 x' x = true ∧ x' = x) := by
 unfold keyEq at h
 split at h
 ·rename_i kk k1 a1 k2 a2
  cases d <;> simp only [TDOK] at hd
  cases hx; cases hx'
  split at h
  ·rename_i e
   obtain ⟨e0, e⟩ := e
   subst e
   simp only [qO1] at h
   subst h
   refine ⟨by simp [KeySame, isW, Instr.sameNow], fun e => ?_⟩
   have : a1 = a2 := by simpa using e
   subst this
   exact ⟨by simp [Instr.sameBits], rfl⟩
  ·cases h
 ·rename_i a1 a2
  cases d <;> simp only [TDOK] at hd
  cases hx; cases hx'
  simp only [qO1] at h
  subst h
  refine ⟨by simp [KeySame, isW, Instr.sameNow], fun e => ?_⟩
  have : a1 = a2 := (bytes_beq a1 a2).1 e
  subst this
  exact ⟨by simpa [Instr.sameBits] using e, rfl⟩
 ·rename_i a1 a2
  cases d <;> simp only [TDOK] at hd
  cases hx; cases hx'
  simp only [qO1] at h
  subst h
  refine ⟨by simp [KeySame, isW, Instr.sameNow], fun e => ?_⟩
  have : a1 = a2 := by simpa using e
  subst this
  exact ⟨by simp [Instr.sameBits], rfl⟩
 ·rename_i fs xs ys
  split at h
  ·rename_i b' ha hk
   split at h
   ·rename_i he
    simp only [qO1] at h
    subst h
    have heq : eqT L 6 kty (.agg xs) (.agg ys) = some b' := by
     rw [eqT, hj]
     simp only [hjd]
     exact he
    have hrun := eqT_ok (w := w) hL 6 10000 (by omega) kty _ _ _ _ b' hx hx' heq
    obtain ⟨vs, rfl, hv⟩ := hx.agg_inv
    obtain ⟨us, rfl, hu'⟩ := hx'.agg_inv
    have hw : isW d = true := by cases d <;> simp only [TDOK] at hd; rfl
    refine ⟨by unfold KeySame; rw [hw]; exact hrun, fun e => ?_⟩
    obtain ⟨rfl, h2⟩ := zkh hv hu' hk e
    exact ⟨by simpa [Instr.sameBits] using h2, rfl⟩
   ·cases h
  ·cases h
 ·cases h
theorem mfind_ok {L : Nat → Option TI} (hL : LOK P L) {s : S} {t : TD} {d : TypeDesc} {kty : Nat} {j : TI} (hj : L kty = some j) (hjd : j.desc = t) (hu : P.underlying kty = some d) (hd : TDOK P t d) {k : AV} {x : Value} (hx : VR s k x) : ∀ (es : List MapEntry) (ks vs : List AV) (i : Nat) (r : Option AV),
  VRs s false ks (es.map (·.key)) → VRs s false vs (es.map (·.val)) → mfind L t k ks vs = some r →
  match r with
  | none => FindAt P w kty d x es i none
  | some v => ∃ j e, FindAt P w kty d x es i (some (i + j, e.val)) ∧ es[j]? = some e ∧ VR s v e.val
 | [], _, _, i, r, hk, hv, h => by
  cases hk; cases hv
  simp only [mfind, qO1] at h
  subst h
  exact .nil
 | e :: es, _, _, i, r, .cons _ hk hks, .cons _ hv hvs, h => by
  simp only [mfind] at h
  split at h
  ·rename_i he
   simp only [qO1] at h
   subst h
   exact ⟨0, e, .hit (zf3 hL hj hjd hu hd hx hk he).1, rfl, hv⟩
  ·rename_i he
   have ih := mfind_ok hL hj hjd hu hd hx es _ _ (i + 1) r hks hvs h
   have g0 := (zf3 (w := w) hL hj hjd hu hd hx hk he).1
   cases r with
   | none => exact .miss g0 ih
   | some v =>
    obtain ⟨j, e', g1, g2, g3⟩ := ih
    refine ⟨j + 1, e', .miss g0 ?_, by simpa using g2, g3⟩
    rw [show i + (j + 1) = i + 1 + j from by omega]; exact g1
  ·cases h
theorem mput_ok {L : Nat → Option TI} (hL : LOK P L) {s : S} {t : TD} {d : TypeDesc} {kty : Nat} {j : TI} (hj : L kty = some j) (hjd : j.desc = t) (hu : P.underlying kty = some d) (hd : TDOK P t d) {k v : AV} {x y : Value} (hx : VR s k x) (hy : VR s v y) : ∀ (es : List MapEntry) (ks vs : List AV) (i n : Nat) (p : List AV × List AV),
  VRs s false ks (es.map (·.key)) → VRs s false vs (es.map (·.val)) → mput L t k v ks vs = some p →
  (FindAt P w kty d x es i none ∧ VRs s false p.1 ((es ++ [({ key := x, val := y, born := n } : MapEntry)]).map MapEntry.key) ∧ VRs s false p.2 ((es ++ [({ key := x, val := y, born := n } : MapEntry)]).map MapEntry.val)) ∨
  ∃ j e, FindAt P w kty d x es i (some (i + j, e.val)) ∧ es[j]? = some e ∧ Instr.sameBits 10000 e.key x = true ∧
   VRs s false p.1 ((es.modify j fun (e : MapEntry) => { e with key := x, val := y }).map MapEntry.key) ∧ VRs s false p.2 ((es.modify j fun (e : MapEntry) => { e with key := x, val := y }).map MapEntry.val)
 | [], _, _, i, n, p, hk, hv, h => by
  cases hk; cases hv
  simp only [mput, qO1] at h
  subst h
  exact .inl ⟨.nil, .cons (fun e => by cases e) hx (.nil _), .cons (fun e => by cases e) hy (.nil _)⟩
 | e :: es, _, _, i, n, p, .cons _ hk hks, .cons _ hv hvs, h => by
  simp only [mput] at h
  split at h
  ·rename_i he
   simp only [qO1] at h
   subst h
   obtain ⟨g1, g2⟩ := zf3 (w := w) hL hj hjd hu hd hx hk he
   exact .inr ⟨0, e, .hit g1, rfl, (g2 rfl).1, .cons (fun e => by cases e) hx hks, .cons (fun e => by cases e) hy hvs⟩
  ·rename_i he
   simp only [Option.map_eq_some_iff] at h
   obtain ⟨q, h1, rfl⟩ := h
   have g1 := (zf3 (w := w) hL hj hjd hu hd hx hk he).1
   rcases mput_ok hL hj hjd hu hd hx hy es _ _ (i + 1) n q hks hvs h1 with ⟨k1, k2, k3⟩ | ⟨j, e', k1, k2, k3, k4, k5⟩
   ·exact .inl ⟨.miss g1 k1, .cons (fun e => by cases e) hk k2, .cons (fun e => by cases e) hv k3⟩
   ·refine .inr ⟨j + 1, e', .miss g1 ?_, by simpa using k2, k3, ?_, ?_⟩
    ·rw [show i + (j + 1) = i + 1 + j from by omega]; exact k1
    ·simpa [List.modify_succ_cons] using VRs.cons (fun e => by cases e) hk k4
    ·simpa [List.modify_succ_cons] using VRs.cons (fun e => by cases e) hv k5
  ·cases h
theorem mput_top {L : Nat → Option TI} {t : TD} {k v : AV} (hk : k.top = true) (hv : v.top = true) : ∀ (ks vs : List AV) (p : List AV × List AV), ks.all AV.top = true → vs.all AV.top = true → mput L t k v ks vs = some p → p.1.all AV.top = true ∧ p.2.all AV.top = true
 | [], [], p, _, _, h => by
  simp only [mput, qO1] at h
  subst h; simp [hk, hv]
 | k' :: ks, u :: vs, p, a, b, h => by
  simp only [List.all_cons, qO5] at a b
  simp only [mput] at h
  split at h
  ·simp only [qO1] at h
   subst h; simp [hk, hv, a.2, b.2]
  ·simp only [Option.map_eq_some_iff] at h
   obtain ⟨q, h1, rfl⟩ := h
   obtain ⟨g1, g2⟩ := mput_top hk hv ks vs q a.2 b.2 h1
   simp [a.1, b.1, g1, g2]
  ·cases h
 | [], _ :: _, _, _, _, h => by cases h
 | _ :: _, [], _, _, _, h => by cases h
theorem mdel_ok {L : Nat → Option TI} (hL : LOK P L) {s : S} {t : TD} {d : TypeDesc} {kty : Nat} {j : TI} (hj : L kty = some j) (hjd : j.desc = t) (hu : P.underlying kty = some d) (hd : TDOK P t d) {k : AV} {x : Value} (hx : VR s k x) : ∀ (es : List MapEntry) (ks vs : List AV) (i : Nat) (p : List AV × List AV),
  VRs s false ks (es.map (·.key)) → VRs s false vs (es.map (·.val)) → mdel L t k ks vs = some p →
  (FindAt P w kty d x es i none ∧ VRs s false p.1 (es.map (·.key)) ∧ VRs s false p.2 (es.map (·.val))) ∨
  ∃ j e, FindAt P w kty d x es i (some (i + j, e.val)) ∧ es[j]? = some e ∧ VRs s false p.1 ((es.eraseIdx j).map (·.key)) ∧ VRs s false p.2 ((es.eraseIdx j).map (·.val))
 | [], _, _, i, p, hk, hv, h => by
  cases hk; cases hv
  simp only [mdel, qO1] at h
  subst h
  exact .inl ⟨.nil, .nil _, .nil _⟩
 | e :: es, _, _, i, p, .cons _ hk hks, .cons _ hv hvs, h => by
  simp only [mdel] at h
  split at h
  ·rename_i he
   simp only [qO1] at h
   subst h
   exact .inr ⟨0, e, .hit (zf3 hL hj hjd hu hd hx hk he).1, rfl, hks, hvs⟩
  ·rename_i he
   simp only [Option.map_eq_some_iff] at h
   obtain ⟨q, h1, rfl⟩ := h
   have g1 := (zf3 (w := w) hL hj hjd hu hd hx hk he).1
   rcases mdel_ok hL hj hjd hu hd hx es _ _ (i + 1) q hks hvs h1 with ⟨k1, k2, k3⟩ | ⟨j, e', k1, k2, k3, k4⟩
   ·exact .inl ⟨.miss g1 k1, .cons (fun e => by cases e) hk k2, .cons (fun e => by cases e) hv k3⟩
   ·refine .inr ⟨j + 1, e', .miss g1 ?_, by simpa using k2, ?_, ?_⟩
    ·rw [show i + (j + 1) = i + 1 + j from by omega]; exact k1
    ·simpa using VRs.cons (fun e => by cases e) hk k3
    ·simpa using VRs.cons (fun e => by cases e) hv k4
  ·cases h
theorem mdel_top {L : Nat → Option TI} {t : TD} {k : AV} : ∀ (ks vs : List AV) (p : List AV × List AV), ks.all AV.top = true → vs.all AV.top = true → mdel L t k ks vs = some p → p.1.all AV.top = true ∧ p.2.all AV.top = true
 | [], [], p, _, _, h => by
  simp only [mdel, qO1] at h
  subst h; exact ⟨rfl, rfl⟩
 | k' :: ks, u :: vs, p, a, b, h => by
  simp only [List.all_cons, qO5] at a b
  simp only [mdel] at h
  split at h
  ·simp only [qO1] at h
   subst h; exact ⟨a.2, b.2⟩
  ·simp only [Option.map_eq_some_iff] at h
   obtain ⟨q, h1, rfl⟩ := h
   obtain ⟨g1, g2⟩ := mdel_top ks vs q a.2 b.2 h1
   simp [a.1, b.1, g1, g2]
  ·cases h
 | [], _ :: _, _, _, _, h => by cases h
 | _ :: _, [], _, _, _, h => by cases h
theorem key_map {d : Nat} (h : d < 500000) : isMapKey (d + 500000) = true := by
 unfold isMapKey
 rw [Nat.mod_eq_of_lt (by omega)]
 exact Nat.ble_eq_true_of_le (by omega)
theorem ok_makeMap (h : RelM c nt st a w m) (t : Nat) {d : Nat} (hd : d < 500000) :
  ∃ y w' m', (Instr.makeMap t none).run P w = .ok y w' ∧ RelM c nt (newBlk st (d + 500000) [.mapd [] []]).2 a w' m' ∧ VR (At (newBlk st (d + 500000) [.mapd [] []]).2 w' m') (.mref (d + 500000) (newBlk st (d + 500000) [.mapd [] []]).1) y := by
 have hT : Turn st w m (d + 500000) ⟨(st.tag, st.next), [.mapd [] []]⟩ (st.next + 1) (w.alloc (.map #[] 0)) (w.heap.size, 0) 1 :=
  ⟨Pres.alloc _ _ _, Nat.le_succ _, .inr (.inl (Nat.le_refl _)), .inr zbr⟩
 refine ⟨.map (some w.heap.size), _, m.set (d + 500000) (w.heap.size, 0) 1, rfl, ?_, ?_⟩
 ·rw [zb4]
  refine h.turn hT ⟨zay _ _, fun e => ?_, ?_⟩
  ·have := h.next1
   simp only [turned, qO4] at e
   omega
  ·rw [key_map hd]
   refine ⟨[], [], #[], 0, rfl, ?_, ?_, ?_, ?_, .nil _, .nil _, rfl, rfl⟩
   ·simp only [Mp.set, if_true]; exact zfg _ _
   ·simp only [Mp.set, if_true]
   ·simp only [Mp.set, if_true]
   ·simp only [Mp.set, if_true]; exact .inl h.pres.size
 ·refine .mref (zay _ _) fun blk hb hs => ?_
  simp [Mp.set]
theorem RelM.mapTurn (h : RelM c nt st a w m) {k : Nat} {blk : Blk} (hb : aget k st.heap = some blk) (hk : isMapKey k = true) {ks vs : List AV} {es : Array MapEntry} {n : Nat}
  (hks : VRs (At st w m) false ks (es.toList.map (·.key))) (hvs : VRs (At st w m) false vs (es.toList.map (·.val))) (tk : ks.all AV.top = true) (tv : vs.all AV.top = true) :
  RelM c nt (putCells st k [.mapd ks vs]) a (w.putMap (m.base k).1 es n) m := by
 have hB := h.blk k blk hb
 obtain ⟨ks0, vs0, es0, n0, y1, y2, y3, y4, y5, _⟩ := h.mapAt hb hk
 simp only at y2 y3 y4 y5
 have hput : putCells st k [.mapd ks vs] = turned st k ⟨blk.stamp, [.mapd ks vs]⟩ st.next := by
  simp [putCells, hb, turned]
 have hmset := m.set_self k
 have hlt : (m.base k).1 < w.heap.size := (Array.getElem?_eq_some_iff.1 y2).1
 have hT : Turn st w m k ⟨blk.stamp, [.mapd ks vs]⟩ st.next (w.putMap (m.base k).1 es n) (m.base k) (m.ext k) := by
  refine ⟨Pres.putMap y2 ⟨⟨blk, hb⟩, rfl, by omega, by omega⟩, Nat.le_refl _, .inr (.inr ⟨⟨blk, hb⟩, rfl, Nat.le_refl _, Nat.le_refl _⟩), .inl ⟨blk, hb, rfl, rfl, rfl, by rw [y1]; rfl⟩⟩
 have hl := hT.later
 have hR := h.turn hT (by
  rw [hmset] at hl ⊢
  refine ⟨hl.ok _ hB.1, hB.2.1, ?_⟩
  rw [hk]
  exact ⟨ks, vs, es, n, rfl, by rw [zfw]; simp [hlt], y3, y4, y5, hks.move hl (.inl (Nat.le_refl _)), hvs.move hl (.inl (Nat.le_refl _)), tk, tv⟩)
 rw [hmset] at hR
 rw [hput]; exact hR
theorem zeu {L : Nat → Option TI} (hL : LOK P L) {s : S} {xs ys : List AV} {vs : List Value} (hx : VRs s true xs vs) (em : Bool) (n : Nat) (hn0 : 0 < n) : ∀ (fields : List Field) (b : Bool),
  allInts L (fields.map fun f => (f.offset, f.type)) = true → eqFs L (eqT L 5) xs ys (fields.map fun f => (f.offset, f.type)) = some b → b = true →
  (forIn (m := Sem) fields PUnit.unit fun f _ => if f.name ≠ "_" then (do
   let y ← part f.type vs.toArray f.offset
   Instr.checkKey em n f.type y
   pure (ForInStep.yield PUnit.unit)) else pure (ForInStep.yield PUnit.unit)).run P w = .ok PUnit.unit w
 | [], _, _, _, _ => by simp
 | f :: fs, b, ha, h, hb => by
  simp only [List.map_cons, allInts] at ha
  simp only [List.map_cons, eqFs] at h
  split at ha
  ·rename_i kk a1 a2 a3 hj
   rw [hj] at h
   simp only at h
   split at h
   ·rename_i a c hra hrc
    obtain ⟨ya, p1, q1⟩ := ze7 (hL _ _ hj) hx hra w
    obtain ⟨ds, g1, g2, _⟩ := (hL _ _ hj).run_und
    cases ds <;> simp only [TDOK] at g1
    have hc : (Instr.checkKey em n f.type ya).run P w = .ok () w := by
     obtain ⟨k, rfl⟩ : ∃ k, n = k + 1 := ⟨n - 1, by omega⟩
     unfold Instr.checkKey
     simp only [Sem.run_bind, run_underlying g2, Result.andThen]
     cases ya <;> rfl
    have hrest : eqFs L (eqT L 5) xs ys (fs.map fun f => (f.offset, f.type)) = some b := by
     split at h
     ·exact h
     ·rename_i r hr
      subst hb
      exact absurd h hr
    have ih := zeu hL hx em n hn0 fs b ha hrest hb
    by_cases hn : f.name = "_"
    ·simp only [List.forIn_cons, hn]
     simpa [Result.andThen] using ih
    ·simp only [List.forIn_cons]
     simpa [hn, p1, hc, Result.andThen] using ih
   ·cases h
  ·cases ha
theorem zlm {L : Nat → Option TI} (hL : LOK P L) {s : S} {t : TD} {d : TypeDesc} {kty : Nat} (hu : P.underlying kty = some d) (hd : TDOK P t d) {k : AV} {x : Value} (hx : VR s k x) (h : keyEq L t k k = some true) (em : Bool) : (Instr.checkKey em 10000 kty x).run P w = .ok () w := by
 unfold keyEq at h
 split at h
 ·cases d <;> simp only [TDOK] at hd
  cases hx
  split at h
  ·rename_i e
   subst hd
   exact run_checkKey hu (show IsKey (.int _) (.int _ _) from e.1) em 9999
  ·cases h
 ·cases d <;> simp only [TDOK] at hd
  cases hx
  exact run_checkKey hu (show IsKey .string (.string _) from trivial) em 9999
 ·cases d <;> simp only [TDOK] at hd
  cases hx
  exact run_checkKey hu (show IsKey .bool (.bool _) from trivial) em 9999
 ·rename_i fs xs ys h1 h2
  split at h
  ·rename_i b' ha hk
   split at h
   ·rename_i he
    simp only [qO1] at h
    obtain ⟨vs, rfl, hv⟩ := hx.agg_inv
    cases d <;> simp only [TDOK] at hd
    rename_i fields
    obtain ⟨hd, _⟩ := hd
    rw [← hd] at ha he
    show (Instr.checkKey em (9998 + 1 + 1) kty _).run P w = _
    unfold Instr.checkKey
    simp only [Sem.run_bind, run_underlying hu, Result.andThen]
    have := zeu (w := w) hL hv em 9999 (by omega) fields.toList b' ha he h
    rw [← Array.forIn_toList]
    rw [this]
    rfl
   ·cases h
  ·cases h
 ·cases h
theorem zlh {L : Nat → Option TI} (hL : LOK P L) {t e : Nat} {kt : TD} (h : mapTy L t = some (kt, e)) : ∃ k d j, P.underlying t = some (.map k e) ∧ P.underlying k = some d ∧ TDOK P kt d ∧ L k = some j ∧ j.desc = kt := by
 unfold mapTy at h
 cases hi : L t with
 | none => simp [hi] at h
 | some i =>
  simp only [hi, qO3, qO2] at h
  split at h
  ·rename_i k e' hd
   cases hj : L k with
   | none => simp [hj] at h
   | some j =>
    simp only [hj, qO2, qO1, qO4] at h
    obtain ⟨rfl, rfl⟩ := h
    obtain ⟨dt, q1, q2, _⟩ := (hL t i hi).run_und
    obtain ⟨dk, r1, r2, _⟩ := (hL k j hj).run_und
    rw [hd] at q1
    cases dt <;> simp only [TDOK] at q1
    obtain ⟨rfl, rfl⟩ := q1
    exact ⟨_, dk, j, q2, r2, r1, hj, rfl⟩
  ·cases h
theorem VR.mref_inv {s : S} {k : Nat} {σ : Nat × Nat} {x : Value} (h : VR s (.mref k σ) x) {blk : Blk} (hb : aget k s.heap = some blk) (hs : blk.stamp = σ) : x = .map (some (s.m.base k).1) := by
 cases h with | mref hok hl => rw [hl blk hb hs]
theorem RelM.mapRead (h : RelM c nt st a w m) {g : Nat} {σ : Nat × Nat} {ks vs : List AV} (hm : mapOf st g σ = some (ks, vs)) {x : Value} (hx : VR (At st w m) (.mref g σ) x) :
  ∃ es n, x = .map (some (m.base g).1) ∧ w.heap[(m.base g).1]? = some (.map es n) ∧ VRs (At st w m) false ks (es.toList.map (·.key)) ∧ VRs (At st w m) false vs (es.toList.map (·.val)) ∧ ks.all AV.top = true ∧ vs.all AV.top = true ∧
   ∃ blk, aget g st.heap = some blk ∧ isMapKey g = true := by
 obtain ⟨blk, b1, b2, b3, b4⟩ := mapOf_some hm
 obtain ⟨ks0, vs0, es, n, y1, y2, y3, y4, y5, y6, y7, y8, y9⟩ := h.mapAt b1 b4
 rw [b3] at y1
 simp only [List.cons.injEq, AV.mapd.injEq, and_true] at y1
 obtain ⟨rfl, rfl⟩ := y1
 exact ⟨es, n, hx.mref_inv b1 b2, y2, y6, y7, y8, y9, blk, b1, b4⟩
theorem ok_lookup {L : Nat → Option TI} (hL : LOK P L) {t e : Nat} {kt : TD} (ht : mapTy L t = some (kt, e)) {j : TI} (hj : L e = some j) {s : S} {mv : Value} {es : Array MapEntry} {ks vs : List AV}
  (hes : (mv = .map none ∧ es = #[]) ∨ ∃ r n, mv = .map (some r) ∧ s.w.heap[r]? = some (.map es n)) (hks : VRs s false ks (es.toList.map (·.key))) (hvs : VRs s false vs (es.toList.map (·.val)))
  {k : AV} {x : Value} (hx : VR s k x) {v : AV} {is : Bool} (h : mlook L kt j.zeroAV k ks vs = some (v, is)) (ok : Bool) :
  ∃ y, (Instr.lookup t mv x ok).run P s.w = .ok y s.w ∧ VR s (if ok then .tup [v, .bool is] else v) y := by
 obtain ⟨kty, d, jk, hu, hk, hd, hjk, hjd⟩ := zlh hL ht
 obtain ⟨z, hz, hzr⟩ := (hL e j hj).run_zeroAV s
 unfold mlook at h
 split at h
 ·rename_i hkk
  have hkey := fun em => zlm (w := s.w) hL hk hd hx hkk em
  simp only [Option.map_eq_some_iff] at h
  obtain ⟨r, h1, h2⟩ := h
  have hf := mfind_ok (w := s.w) hL hjk hjd hk hd hx es.toList ks vs 0 r hks hvs h1
  have fin : ∀ (y : Value) (yes : Bool), VR s v y → yes = is → VR s (if ok then .tup [v, .bool is] else v) (if ok then .tuple #[y, .bool yes] else y) := fun y yes hy e => by
   subst e
   cases ok
   ·exact hy
   ·exact .tup (vs := [y, .bool yes]) (.cons (fun e => by cases e) hy (.cons (fun e => by cases e) (.bool _) (.nil _)))
  have run : ∀ (a : Option (Nat × Value)), FindAt P s.w kty d x es.toList 0 a → (Instr.lookup t mv x ok).run P s.w = .ok (match a with | some (_, y) => if ok then .tuple #[y, .bool true] else y | none => if ok then .tuple #[z, .bool false] else z) s.w := fun a ha => by
   rcases hes with ⟨rfl, rfl⟩ | ⟨r0, n, rfl, hr⟩
   ·simp [Instr.lookup, run_underlying hu, hkey, ha.run hk, Result.andThen]
    cases a with
    | none => simp [hzr, Result.andThen]
    | some p => simp [Result.andThen]
   ·simp [Instr.lookup, run_underlying hu, MapKept.run_getObj_map hr, hkey, ha.run hk, Result.andThen]
    cases a with
    | none => simp [hzr, Result.andThen]
    | some p => simp [Result.andThen]
  cases r with
  | none =>
   simp only [qO4] at h2
   obtain ⟨rfl, rfl⟩ := h2
   exact ⟨_, run _ hf, fin z false hz rfl⟩
  | some u =>
   simp only [qO4] at h2
   obtain ⟨rfl, rfl⟩ := h2
   obtain ⟨i, e', g1, g2, g3⟩ := hf
   exact ⟨_, run _ g1, fin e'.val true g3 rfl⟩
 ·cases h
theorem zn9 {L : Nat → Option TI} (hL : LOK P L) (h : RelM c nt st a w m) {t e : Nat} {kt : TD} (ht : mapTy L t = some (kt, e)) {g : Nat} {σ : Nat × Nat} {ks vs : List AV} (hm : mapOf st g σ = some (ks, vs))
  {mv x y : Value} (hv : VR (At st w m) (.mref g σ) mv) {k v : AV} (hx : VR (At st w m) k x) (hy : VR (At st w m) v y) (hkk : keyEq L kt k k = some true) (htop : v.top = true) {p : List AV × List AV} (hp : mput L kt k v ks vs = some p) :
  ∃ w', (Instr.mapUpdate t mv x y).run P w = .ok () w' ∧ RelM c nt (putCells st g [.mapd p.1 p.2]) a w' m := by
 obtain ⟨kty, d, jk, hu, hk, hd, hjk, hjd⟩ := zlh hL ht
 obtain ⟨es, n, rfl, hb, hks, hvs, tk, tv, blk, b1, b2⟩ := h.mapRead hm hv
 have hkey := fun em => zlm (w := w) hL hk hd hx hkk em
 have ktop : k.top = true := by
  unfold keyEq at hkk
  split at hkk <;> first | rfl | cases hkk
 obtain ⟨tp1, tp2⟩ := mput_top ktop htop ks vs p tk tv hp
 rcases mput_ok (w := w) hL hjk hjd hk hd hx hy es.toList ks vs 0 n p hks hvs hp with ⟨g1, g2, g3⟩ | ⟨j, e', g1, g2, g3, g4, g5⟩
 ·refine ⟨w.putMap (m.base g).1 (es.push { key := x, val := y, born := n }) (n + 1), ?_, h.mapTurn b1 b2 (by rw [Array.toList_push]; exact g2) (by rw [Array.toList_push]; exact g3) tp1 tp2⟩
  simp [Instr.mapUpdate, run_underlying hu, MapKept.run_getObj_map hb, hkey, g1.run hk, MapKept.run_setObj_map _ hb, Result.andThen, World.putMap]
 ·have hj : es[j]? = some e' := by simpa using g2
  refine ⟨w.putMap (m.base g).1 (es.modify j fun e => { e with key := x, val := y }) n, ?_, h.mapTurn b1 b2 (by rw [Array.toList_modify]; exact g4) (by rw [Array.toList_modify]; exact g5) tp1 tp2⟩
  have hstay : (Instr.keyThatStays e'.key x).run P w = .ok x w := by
   unfold Instr.keyThatStays
   rw [if_pos g3]; rfl
  simp [Instr.mapUpdate, run_underlying hu, MapKept.run_getObj_map hb, hkey, g1.run hk, hj, hstay, MapKept.run_setObj_map _ hb, Result.andThen, World.putMap]
theorem ok_delete {L : Nat → Option TI} (hL : LOK P L) (h : RelM c nt st a w m) {t e ty : Nat} {kt : TD} (ht : mapTy L t = some (kt, e)) {g : Nat} {σ : Nat × Nat} {ks vs : List AV} (hm : mapOf st g σ = some (ks, vs))
  {mv x : Value} (hv : VR (At st w m) (.mref g σ) mv) {k : AV} (hx : VR (At st w m) k x) (hkk : keyEq L kt k k = some true) {p : List AV × List AV} (hp : mdel L kt k ks vs = some p) (ts : Array Nat) (hts : ts[0]? = some t) :
  ∃ w', (Builtin.delete_ ts ty #[mv, x]).run P w = .ok (.tuple #[]) w' ∧ RelM c nt (putCells st g [.mapd p.1 p.2]) a w' m := by
 obtain ⟨kty, d, jk, hu, hk, hd, hjk, hjd⟩ := zlh hL ht
 obtain ⟨es, n, rfl, hb, hks, hvs, tk, tv, blk, b1, b2⟩ := h.mapRead hm hv
 have hkey := fun em => zlm (w := w) hL hk hd hx hkk em
 obtain ⟨tp1, tp2⟩ := mdel_top ks vs p tk tv hp
 rcases mdel_ok (w := w) hL hjk hjd hk hd hx es.toList ks vs 0 p hks hvs hp with ⟨g1, g2, g3⟩ | ⟨j, e', g1, g2, g3, g4⟩
 ·refine ⟨w.putMap (m.base g).1 es n, ?_, h.mapTurn b1 b2 g2 g3 tp1 tp2⟩
  simp [Builtin.delete_, hts, run_underlying hu, MapKept.run_getObj_map hb, hkey, g1.run hk, MapKept.run_setObj_map _ hb, Result.andThen, World.putMap]
 ·have hjl : j < es.size := by have := (List.getElem?_eq_some_iff.1 g2).1; simpa using this
  have he : (es.eraseIdxIfInBounds j).toList = es.toList.eraseIdx j := by
   unfold Array.eraseIdxIfInBounds
   rw [dif_pos hjl, Array.toList_eraseIdx]
  refine ⟨w.putMap (m.base g).1 (es.eraseIdxIfInBounds j) n, ?_, h.mapTurn b1 b2 (by rw [he]; exact g3) (by rw [he]; exact g4) tp1 tp2⟩
  simp [Builtin.delete_, hts, run_underlying hu, MapKept.run_getObj_map hb, hkey, g1.run hk, MapKept.run_setObj_map _ hb, Result.andThen, World.putMap]
end
end Go.Sim
end
section
namespace Go.Sim
open Go
section
variable {P : Program} {c : Cx} {nt : Nat} {st : St} {a : Act} {w : World} {m : Mp} {L : Nat → Option TI} {K : Ann} {Γ : Oracle}
def seen (m : Mp) (w : World) : Mp := mpOf w.heap.size m []
abbrev SeenS (st : St) (w : World) (m : Mp) : S := ⟨w, [], seen m w, st.tag + 1, 1⟩
theorem zbp {b o : Nat} : ¬ Held (SeenS st w m) b o := by
 rintro (⟨k, blk, h, _⟩ | h)
 ·cases h
 ·exact h
mutual
theorem VR.shut_seen : ∀ {v : AV} {x : Value}, v.shut = true → VR (At st w m) v x → VR (SeenS st w m) v x
 | _, _, _, .junk v => .junk v
 | _, _, _, .bool b => .bool b
 | _, _, _, .int k n => .int k n
 | _, _, _, .str b => .str b
 | _, _, _, .nilp => .nilp
 | _, _, hs, .ref _ _ => by simp [AV.shut] at hs
 | _, _, hs, .msl _ _ _ => by simp [AV.shut] at hs
 | _, _, hs, .isl ha hcap hlen hr hv => .isl ha hcap hlen (fun k v hk => ⟨(hr k v hk).1, zbp⟩) (hv.shut_seen hs)
 | _, _, _, .islnil => .islnil
 | _, _, hs, .fsl .. => by simp [AV.shut] at hs
 | _, _, hs, .fslnil => by simp [AV.shut] at hs
 | _, _, _, .nsl => .nsl
 | _, _, hs, .ipt ha hr hv => .ipt ha (fun k v hk => ⟨(hr k v hk).1, zbp⟩) (hv.shut_seen hs)
 | _, _, hs, .agg hv => .agg (hv.shut_seen hs)
 | _, _, hs, .tup _ => by simp [AV.shut] at hs
 | _, _, _, .nilI => .nilI
 | _, _, _, .nilF => .nilF
 | _, _, _, .nilM => .nilM
 | _, _, _, .gref g => .gref g
 | _, _, _, .err h => .err h
 | _, _, hs, .mref _ _ => by simp [AV.shut] at hs
 | _, _, hs, .fn hv => .fn (hv.shut_seen hs)
 | _, _, hs, .imp hm hr hk hv tk tv => by
   simp only [AV.shut, qO5] at hs
   exact .imp hm zbp (hk.shut_seen hs.1) (hv.shut_seen hs.2) tk tv
 | _, _, hs, .yld hl h1 h2 h3 hv => .yld hl h1 h2 h3 (hv.shut_seen hs)
 | _, _, _, .veil h h1 => .veil h h1
theorem VRs.shut_seen : ∀ {one : Bool} {vs : List AV} {xs : List Value}, shutL vs = true → VRs (At st w m) one vs xs → VRs (SeenS st w m) one vs xs
 | _, _, _, _, .nil _ => .nil _
 | _, _, _, hs, .cons h1 hv hvs => by
   simp only [shutL, qO5] at hs
   exact .cons h1 (hv.shut_seen hs.1) (hvs.shut_seen hs.2)
end
theorem view_top (rd : Option (List Nat)) : ∀ (n : Nat) (v : AV), v.top = true → (view rd st n v).top = true
 | 0, v, h => by
  unfold view
  split
  ·exact h
  ·rfl
 | n + 1, v, h => by
  unfold view
  split <;> first | rfl | exact h | skip
  ·split
   ·rfl
   ·split <;> first | rfl | (split <;> rfl)
  ·split
   ·rfl
   ·split <;> first | rfl | (split <;> rfl)
  ·split
   ·rfl
   ·split <;> rfl
theorem zgm (rd : Option (List Nat)) : ∀ (n : Nat) (vs : List AV), (viewL rd st n vs).length = vs.length
 | _, [] => by simp [viewL]
 | 0, v :: vs => by simp [viewL, zgm rd 0 vs]
 | n + 1, v :: vs => by simp [viewL, zgm rd (n + 1) vs]
theorem zct (rd : Option (List Nat)) (n : Nat) : viewL rd st n [] = [] := by cases n <;> simp [viewL]
theorem zfb (rd : Option (List Nat)) (n : Nat) (v : AV) (vs : List AV) : viewL rd st n (v :: vs) = view rd st n v :: viewL rd st n vs := by
 cases n with
 | zero => simp [viewL, view]
 | succ n => simp [viewL]
theorem zei (rd : Option (List Nat)) (n : Nat) : ∀ (vs : List AV), vs.all AV.top = true → (viewL rd st n vs).all AV.top = true
 | [], _ => by rw [zct]; rfl
 | v :: vs, h => by
  rw [List.all_cons, qO5] at h
  rw [zfb, List.all_cons, view_top rd n v h.1, zei rd n vs h.2]; rfl
theorem viewL_of {rd : Option (List Nat)} {n : Nat} (ih : ∀ v x, VR (At st w m) v x → VR (SeenS st w m) (view rd st n v) x) : ∀ {one : Bool} (vs : List AV) (xs : List Value), VRs (At st w m) one vs xs → VRs (SeenS st w m) one (viewL rd st n vs) xs
 | one, [], xs, h => by cases h; rw [zct]; exact .nil _
 | one, v :: vs, _, .cons h1 hv hs => by
  rw [zfb]
  exact .cons (fun e => ⟨(h1 e).1, view_top rd n v (h1 e).2⟩) (ih v _ hv) (viewL_of ih vs _ hs)
theorem view_ok (h : RelM c nt st a w m) (rd : Option (List Nat)) : ∀ (n : Nat) (v : AV) (x : Value), VR (At st w m) v x → VR (SeenS st w m) (view rd st n v) x
 | 0, v, x, hv => by
  unfold view
  split
  ·rename_i hs; exact hv.shut_seen hs
  ·exact .junk _
 | n + 1, v, x, hv => by
  have ih := view_ok h rd n
  have ihl := fun {one : Bool} (vs : List AV) (xs : List Value) (h : VRs (At st w m) one vs xs) => viewL_of ih vs xs h
  unfold view
  split
  ·rename_i k g o
   split
   ·exact .junk _
   split
   ·rename_i cells hb
    split
    ·rename_i hle
     obtain ⟨blk, b1, b2, rfl⟩ := zap hb
     cases hv with
     | ref hok hl =>
      obtain ⟨e1, e2⟩ := hl blk b1 b2
      subst e1 e2
      rcases h.blkAt b1 with ⟨q1, q2⟩ | ⟨cs, e, fr, r1, r2, r3, r4, r5, us, r6, r7⟩
      ·rw [q1]
       simp only [List.drop_nil, zct]
       exact .ipt (vs := []) rfl (fun k v hk => by simp at hk) (.nil _)
      ·refine .ipt (vs := us.drop o) rfl (fun j v hj => ⟨?_, zbp⟩) (ihl _ _ (r6.drop o))
       rw [List.getElem?_drop] at hj
       show w.cell? _ = _
       rw [zax r1]
       simp only [Nat.add_assoc]
       exact r7 _ v hj
    ·exact .junk _
   ·exact .junk _
  ·rename_i k g z o q
   split
   ·exact .junk _
   split
   ·rename_i cells hb
    split
    ·rename_i hle
     obtain ⟨blk, b1, b2, rfl⟩ := zap hb
     obtain ⟨hle', hs⟩ := hv.msl_inv b1 b2
     rcases hs with ⟨cap, rfl, g1, g2⟩ | ⟨rfl, pa, rfl⟩
     ·rcases h.blkAt b1 with ⟨q1, q2⟩ | ⟨cs, e, fr, r1, r2, r3, r4, r5, us, r6, r7⟩
      ·rw [q1] at hle ⊢
       simp only [List.length_nil, Nat.le_zero, Nat.add_eq_zero_iff] at hle
       simp only [List.drop_nil, List.take_nil, zct]
       exact .isl (vs := []) rfl g1 (by simp [hle.2]) (fun k v hk => by simp at hk) (.nil _)
      ·refine .isl (vs := (us.drop o).take (q * z)) rfl g1 (by rw [zgm]; simp; omega) (fun j v hj => ⟨?_, zbp⟩) (ihl _ _ ((r6.drop o).take _))
       rw [List.getElem?_take] at hj
       split at hj
       ·rw [List.getElem?_drop] at hj
        show w.cell? _ = _
        rw [zax r1]
        simp only [Nat.add_assoc]
        exact r7 _ v hj
       ·cases hj
     ·simp only [Nat.zero_mul, List.take_zero, zct]
      exact .islnil
    ·exact .junk _
   ·exact .junk _
  ·rename_i k g
   split
   ·exact .junk _
   split
   ·rename_i ks vs hm
    obtain ⟨es, n', rfl, q2, q3, q4, q5, q6, _⟩ := h.mapRead hm hv
    exact .imp q2 zbp (ihl _ _ q3) (ihl _ _ q4) (zei rd n _ q5) (zei rd n _ q6)
   ·exact .junk _
  ·cases hv with
   | isl ha hcap hlen hr hv => exact .isl ha hcap (by rw [zgm]; exact hlen) (fun k v hk => ⟨(hr k v hk).1, zbp⟩) (ihl _ _ hv)
   | islnil => rw [zct]; exact .islnil
  ·cases hv with
   | fsl hB hb hsz hcap hlen hv hc hf =>
    refine .isl rfl hcap hlen (fun k u hk => ⟨?_, zbp⟩) (hv.vrs _ true)
    show w.cell? _ = _
    rw [zax hb]; exact hc k u hk
   | fslnil => exact .islnil
  ·cases hv with | ipt ha hr hv => exact .ipt ha (fun k v hk => ⟨(hr k v hk).1, zbp⟩) (ihl _ _ hv)
  ·cases hv with | imp hm hr hk hv tk tv => exact .imp hm zbp (ihl _ _ hk) (ihl _ _ hv) (zei rd n _ tk) (zei rd n _ tv)
  ·cases hv with | agg hv => exact .agg (ihl _ _ hv)
  ·exact .junk _
  ·exact .junk _
  ·exact .junk _
  ·exact .junk _
  ·rename_i n1 n2 n3 n4 n5 n6 n7 n8 n9 n10 n11 n12
   refine hv.shut_seen ?_
   cases v <;> first | rfl | exact (n1 _ _ _ rfl).elim | exact (n2 _ _ _ _ _ rfl).elim | exact (n3 _ _ rfl).elim | exact (n4 _ _ _ rfl).elim | exact (n5 _ _ _ rfl).elim | exact (n6 _ rfl).elim | exact (n7 _ _ rfl).elim | exact (n8 _ rfl).elim | exact (n9 _ rfl).elim | exact (n10 _ _ rfl).elim | exact (n11 _ _ rfl).elim | exact (n12 _ _ rfl).elim
end
end Go.Sim
end
section
namespace Go.Sim
open Go
section
variable {P : Program} {c : Cx} {nt : Nat} {st : St} {a : Act} {w : World} {m : Mp} {o : Oper} {v : AV} {st' : St} {L : Nat → Option TI} {K : Ann} {Γ : Oracle}
theorem VR.fn_inv {s : S} {f : Nat} {cs : List AV} {x : Value} (h : VR s (.fn f cs) x) : ∃ vs, x = .func (.func f) #[] vs.toArray ∧ VRs s true cs vs := by cases h with | fn hv => exact ⟨_, rfl, hv⟩
theorem VRs.weak {s : S} {cs : List AV} {vs : List Value} (h : VRs s true cs vs) : VRs s false cs vs := by
 induction cs generalizing vs with
 | nil => cases h; exact .nil _
 | cons c cs ih => cases h with | cons h1 hv hs => exact .cons (fun e => by cases e) hv (ih hs)
theorem zdl {cl : Call} {f : Operand} (ho : o.op = .call cl) (hf : cl.callee = .value f) {g : Nat} {caps : Array Value} (he : a.eval f = .func (.func g) #[] caps) :
  (execOp a.eval o).run P w = (callFunc g (cl.args.map a.eval ++ caps)).run P w := by
 simp [execOp, ho, resolve, hf, he, Deferred.ofValue, invoke]
theorem zg1 : ∀ {a b : List (Option (List AV))}, lentSame a b = true → a = b
 | [], [], _ => rfl
 | none :: l, none :: r, h => by rw [zg1 (a := l) (b := r) h]
 | some a :: l, some b :: r, h => by
  simp only [lentSame, qO5] at h
  rw [zit h.1, zg1 h.2]
 | [], _ :: _, h => by cases h
 | none :: _, [], h => by cases h
 | none :: _, some _ :: _, h => by cases h
 | some _ :: _, [], h => by cases h
 | some _ :: _, none :: _, h => by cases h
theorem aput_it {α : Type} {k : Nat} {v : α} : ∀ {l : List (Nat × α)}, aget k l = some v → aput k v l = l
 | [], h => by cases h
 | (j, u) :: l, h => by
  simp only [aget] at h
  simp only [aput]
  split at h
  ·rename_i e; simp only [qO1] at h; subst e; subst h; rw [if_pos rfl]
  ·rename_i e; rw [if_neg e, aput_it h]
theorem setR_it {cells : List AV} {o n : Nat} (h : o + n ≤ cells.length) : setR cells o ((cells.drop o).take n) = cells := by
 unfold setR
 have : ((cells.drop o).take n).length = n := by simp; omega
 rw [this, List.append_assoc, ← List.drop_drop, List.take_append_drop, List.take_append_drop]
theorem zgu {L : Nat → Option TI} {st : St} : ∀ {vs : List AV} {j : Nat} {ts : List Nat} {l : List (AV × Option (List AV) × Option (Nat × Nat × Nat))}, lendAll L st j vs ts = some l → giveBack st (l.map (·.2.2)) (l.map (·.2.1)) = some st
 | [], j, ts, l, h => by simp [lendAll] at h; subst h; rfl
 | v :: vs, j, ts, l, h => by
  simp only [lendAll, qO3, qO6, qO1] at h
  obtain ⟨x, h1, xs, h2, rfl⟩ := h
  have ih := zgu h2
  simp only [List.map_cons]
  cases v <;> simp only [lend, qO3, qO6, qO1] at h1 <;> first | (cases h1; done) | (subst h1; exact ih) | skip
  ·rename_i site g off
   obtain ⟨cells, k1, n', k2, k3⟩ := h1
   split at k3
   ·rename_i hle
    simp only [qO1] at k3
    subst k3
    simp only [giveBack]
    unfold blkOf at k1
    split at k1
    ·cases k1
    split at k1
    ·rename_i b hb
     try rw [hb]
     try simp only
     split at k1
     ·simp only [qO1] at k1
      subst k1
      rw [if_pos (by simp; omega), setR_it hle]
      have : putCells st site b.cells = st := by
       unfold putCells
       rw [hb]
       show ({ st with heap := aput site b st.heap } : St) = st
       rw [aput_it hb]
      rw [this]
      exact ih
     ·cases k1
    ·cases k1
   ·cases k3
  ·rename_i s0 g0 z0 o0 n0
   cases hb : blkOf st s0 g0 with
   | none => rw [hb] at h1; obtain ⟨_, k1, _⟩ := h1; cases k1
   | some cells =>
    rw [hb] at h1
    obtain ⟨_, k1, k2⟩ := h1
    split at k2
    ·simp only [qO1] at k2; subst k2; exact ih
    ·cases k2
theorem zob {L : Nat → Option TI} {Γ : Oracle} {st s : St} {d f : Nat} {args : List AV} {ts : List Nat} {v : AV} (h : roCall L Γ st f args ts = some (v, s)) : aCall L false Γ st d f args ts = some (v, s) := by
 unfold roCall at h
 unfold aCall
 simp only [qO3, qO6] at h ⊢
 obtain ⟨l, h1, h⟩ := h
 refine ⟨l, h1, ?_⟩
 split at h
 ·rename_i hc
  rw [if_pos hc]
  simp only [qO6] at h ⊢
  obtain ⟨q, h2, h⟩ := h
  refine ⟨q, h2, ?_⟩
  split at h
  ·rename_i hs
   have e := zg1 hs
   refine ⟨st, ?_, by simpa [adopt] using h⟩
   rw [← e]
   exact zgu h1
  ·cases h
 ·cases h
theorem zkz (hΓ : OracleOK P Γ) (hG : GlobP P c.gl) (h : RelM c nt st a w m) {cl : Call} {f : Operand} (ho : o.op = .call cl) (hf : cl.callee = .value f) {g d : Nat} {captured : List AV} (hfn : operand st f = .fn g captured) {own : Bool} {ts : List Nat}
  (hc : aCall L own Γ st d g (cl.args.toList.map (operand st) ++ captured) ts = some (v, st')) (hdk : isMapKey d = false := by assumption) : Goes P c nt a o w v st' := by
 have hv := za6 h f
 rw [hfn] at hv
 obtain ⟨caps, he, hcap⟩ := hv.fn_inv
 have hargs : VRs (At st w m) false (cl.args.toList.map (operand st) ++ captured) (cl.args.toList.map a.eval ++ caps) := (zc7 h false _ rfl).append hcap.weak
 generalize hav : cl.args.toList.map (operand st) ++ captured = avs at hc hargs
 unfold aCall at hc
 cases hl : lendAll L st 0 avs ts with
 | none => simp only [hl, qO3, Option.bind_none] at hc; cases hc
 | some l =>
  simp only [hl, qO3, qO2] at hc
  split at hc
  ·rename_i hap
   rw [qO5] at hap
   cases hg : Γ g (st.tag + 1) (l.map (·.1)) (l.map (·.2.1)) with
   | none => simp only [hg, Option.bind_none] at hc; cases hc
   | some p =>
    obtain ⟨r, lent'⟩ := p
    simp only [hg, qO2] at hc
    cases hb : giveBack st (l.map (·.2.2)) lent' with
    | none => simp only [hb, Option.bind_none] at hc; cases hc
    | some st1 =>
     simp only [hb, qO2, qO1] at hc
     have H : Lent st w m avs l := ⟨(zhn hl).1, fun i u p hu hp => by simpa using (zhn hl).2 i u p hu hp, hap.1, hap.2⟩
     have hpre := H.pre h hargs
     have hinv := hΓ.one _ _ _ _ _ _ hg w _ _ hpre (h.gp hG)
     have hrun := zdl (P := P) (w := w) ho hf he
     have harr : cl.args.map a.eval ++ caps.toArray = (cl.args.toList.map a.eval ++ caps).toArray := by apply Array.ext'; simp
     rw [harr] at hrun
     intro next Q hn
     rw [hrun]
     rcases hinv with ⟨h1, h2⟩ | ⟨x, w', h1, h2⟩ | ⟨row, h1, h2⟩
     ·rw [h1]
      refine h2.mono ?_
      rintro e w' ⟨x, rfl, hpost⟩
      obtain ⟨m', k1, k2⟩ := zgc h H hpost hb hc
      exact hn _ _ _ k1 k2
     ·rw [h1]
      obtain ⟨m', k1, k2⟩ := zgc h H h2 hb hc
      exact hn _ _ _ k1 k2
     ·rw [h1]
      refine Go.Rows.mono h2 ?_
      intro x w' hpost
      obtain ⟨m', k1, k2⟩ := zgc h H hpost hb hc
      exact hn _ _ _ k1 k2
  ·cases hc
theorem zhe (h : RelM c nt st a w m) {rd : Option (List Nat)} {V : Pol} {j0 f d : Nat} {hd args : List AV} (hc : hCallG j0 hd f rd V Γ st d args = some (v, st')) :
  ∃ pk l r lent', Γ f (st.tag + 1) (hd ++ args.map (ren (.inn st.tag) pk)) l = some (r, lent') ∧
   (∀ vs, VRs (At st w m) false args vs → HPre w (st.tag + 1) (args.map (ren (.inn st.tag) pk)) l vs (mpre st w m pk l)) ∧
   (∀ x w' m1, HPost w w' (st.tag + 1) (args.map (ren (.inn st.tag) pk)) l lent' (mpre st w m pk l) m1 r x → ∃ m2, RelM c nt st' a w' m2 ∧ VR (At st' w' m2) v x) := by
 unfold hCallG at hc
 simp only [qO3, qO6] at hc
 obtain ⟨pk, hpk, hc⟩ := hc
 split at hc
 ·rename_i hok
  simp only [qO6] at hc
  obtain ⟨l, hl, ⟨r, lent'⟩, hg, bk, hbk, hc⟩ := hc
  split at hc
  ·rename_i hb
   rw [qO5] at hb
   replace hb := hb.2
   simp only [qO5] at hb
   simp only [qO1, qO4] at hc
   obtain ⟨rfl, rfl⟩ := hc
   have hst := fun y hy => (zbj hpk (by simp) y hy).1
   exact ⟨pk, l, r, lent', hg, fun vs hv => hCall_pre h hok hst hl hv, fun x w' m1 hp => hCall_back h hok hst hl hbk hb.1 hb.2 hp⟩
  ·cases hc
 ·cases hc
theorem hCall_goes (hΓ : OracleOK P Γ) (hG : GlobP P c.gl) (h : RelM c nt st a w m) {cl : Call} {f : Operand} (ho : o.op = .call cl) (hf : cl.callee = .value f) {g d : Nat} {captured : List AV} (hfn : operand st f = .fn g captured)
  {rd : Option (List Nat)} {V : Pol} (hc : hCall rd V Γ st d g (cl.args.toList.map (operand st) ++ captured) = some (v, st')) : Goes P c nt a o w v st' := by
 have hv := za6 h f
 rw [hfn] at hv
 obtain ⟨caps, he, hcap⟩ := hv.fn_inv
 have hargs : VRs (At st w m) false (cl.args.toList.map (operand st) ++ captured) (cl.args.toList.map a.eval ++ caps) := (zc7 h false _ rfl).append hcap.weak
 generalize hav : cl.args.toList.map (operand st) ++ captured = avs at hc hargs
 obtain ⟨pk, l, r, lent', hg, hpre, back⟩ := zhe h hc
 have hinv := hΓ.all _ _ _ _ _ _ hg w _ _ (hpre _ hargs) (h.gp hG)
 have hrun := zdl (P := P) (w := w) ho hf he
 have harr : cl.args.map a.eval ++ caps.toArray = (cl.args.toList.map a.eval ++ caps).toArray := by apply Array.ext'; simp
 rw [harr] at hrun
 intro next Q hn
 rw [hrun]
 rcases hinv with ⟨h1, h2⟩ | ⟨x, w', h1, m1, h2⟩ | ⟨row, h1, h2⟩
 ·rw [h1]
  refine h2.mono ?_
  rintro e w' ⟨x, rfl, m1, hpost⟩
  obtain ⟨m', k1, k2⟩ := back _ _ _ hpost
  exact hn _ _ _ k1 k2
 ·rw [h1]
  obtain ⟨m', k1, k2⟩ := back _ _ _ h2
  exact hn _ _ _ k1 k2
 ·rw [h1]
  refine Go.Rows.mono h2 ?_
  rintro x w' ⟨m1, hpost⟩
  obtain ⟨m', k1, k2⟩ := back _ _ _ hpost
  exact hn _ _ _ k1 k2
theorem mpOf_none (B : Nat) (m : Mp) (vs : List AV) : mpOf B m (vs.map fun _ => none) = mpOf B m [] := by
 have key : ∀ k : Nat, (vs.map fun _ => (none : Option (Nat × Nat × Nat)))[k]? = none ∨ (vs.map fun _ => (none : Option (Nat × Nat × Nat)))[k]? = some none := fun k => by
  rw [List.getElem?_map]
  cases vs[k]? with
  | none => exact .inl rfl
  | some _ => exact .inr rfl
 have e1 : (mpOf B m (vs.map fun _ => none)).base = (mpOf B m []).base := funext fun k => by
  simp only [mpOf]
  rcases key k with e | e <;> rw [e] <;> rfl
 have e2 : (mpOf B m (vs.map fun _ => none)).ext = (mpOf B m []).ext := funext fun k => by
  simp only [mpOf]
  rcases key k with e | e <;> rw [e] <;> rfl
 cases h1 : mpOf B m (vs.map fun _ => none)
 cases h2 : mpOf B m []
 rw [h1, h2] at e1 e2
 simp only [mpOf, Mp.mk.injEq] at h1 h2
 simp only at e1 e2
 simp only [Mp.mk.injEq]
 exact ⟨e1, e2, h1.2.2.1.symm.trans h2.2.2.1, h1.2.2.2.1.symm.trans h2.2.2.2.1, h1.2.2.2.2.1.symm.trans h2.2.2.2.2.1, h1.2.2.2.2.2.symm.trans h2.2.2.2.2.2⟩
theorem zbz (tag : Nat) : ∀ (k : Nat) (vs : List AV), lentHeap tag k (vs.map fun _ => none) = []
 | k, [] => rfl
 | k, v :: vs => by simp [lentHeap, zbz tag (k + 1) vs]
theorem view_top12 {rd : Option (List Nat)} (v : AV) : (view rd st 12 v).top = true := by
 unfold view
 split <;> first | rfl | skip
 ·split
  ·rfl
  ·split <;> first | rfl | (split <;> rfl)
 ·split
  ·rfl
  ·split <;> first | rfl | (split <;> rfl)
 ·split
  ·rfl
  ·split <;> rfl
 ·rename_i n1 n2 n3 n4 n5 n6 n7 n8 n9 n10 n11 n12
  cases v <;> first | rfl | exact (n1 _ _ _ rfl).elim | exact (n2 _ _ _ _ _ rfl).elim | exact (n3 _ _ rfl).elim | exact (n4 _ _ _ rfl).elim | exact (n5 _ _ _ rfl).elim | exact (n6 _ rfl).elim | exact (n7 _ _ rfl).elim | exact (n8 _ rfl).elim | exact (n9 _ rfl).elim | exact (n10 _ _ rfl).elim | exact (n11 _ _ rfl).elim | exact (n12 _ _ rfl).elim
theorem views_ok (h : RelM c nt st a w m) (rd : Option (List Nat)) : ∀ (vs : List AV) (xs : List Value), VRs (At st w m) false vs xs → VRs (SeenS st w m) false (vs.map (view rd st 12)) xs
 | [], _, .nil _ => .nil _
 | _ :: vs, _, .cons _ hv hs => .cons (fun e => by cases e) (view_ok h rd 12 _ _ hv) (views_ok h rd vs _ hs)
theorem vCall_goes (hΓ : OracleOK P Γ) (hG : GlobP P c.gl) (h : RelM c nt st a w m) {cl : Call} {f : Operand} (ho : o.op = .call cl) (hf : cl.callee = .value f) {g d : Nat} {captured : List AV} (hfn : operand st f = .fn g captured) {own : Bool}
  {rd : Option (List Nat)} (hc : vCall rd own Γ st d g (cl.args.toList.map (operand st) ++ captured) = some (v, st')) (hdk : isMapKey d = false := by assumption) : Goes P c nt a o w v st' := by
 have hv := za6 h f
 rw [hfn] at hv
 obtain ⟨caps, he, hcap⟩ := hv.fn_inv
 have hargs : VRs (At st w m) false (cl.args.toList.map (operand st) ++ captured) (cl.args.toList.map a.eval ++ caps) := (zc7 h false _ rfl).append hcap.weak
 generalize hav : cl.args.toList.map (operand st) ++ captured = avs at hc hargs
 unfold vCall at hc
 simp only [qO3, qO6] at hc
 obtain ⟨⟨r, lent'⟩, hg, hc⟩ := hc
 simp only [qO1] at hc
 have hvs := views_ok h rd _ _ hargs
 generalize hvw : avs.map (view rd st 12) = ws at hg hvs
 have hlen : (avs.map fun _ => (none : Option (List AV))) = ws.map fun _ => none := by
  rw [← hvw, List.map_map]; rfl
 rw [hlen] at hg
 have htop : ∀ u ∈ ws, u.top = true := fun u hu => by
  rw [← hvw] at hu
  obtain ⟨z, _, rfl⟩ := List.mem_map.1 hu
  exact view_top12 z
 have hl1 : (ws.map fun u => (u, (none : Option (List AV)), (none : Option (Nat × Nat × Nat)))).map (·.2.1) = ws.map fun _ => none := by rw [List.map_map]; rfl
 have hl2 : (ws.map fun u => (u, (none : Option (List AV)), (none : Option (Nat × Nat × Nat)))).map (·.2.2) = ws.map fun _ => none := by rw [List.map_map]; rfl
 have H : Lent st w m ws (ws.map fun u => (u, none, none)) := by
  refine ⟨by simp, fun i u p hu hp => ?_, ?_, ?_⟩
  ·rw [List.getElem?_map, hu] at hp
   simp only [Option.map_some, qO1] at hp
   subst hp
   exact .other (htop u (List.mem_of_getElem? hu))
  ·rw [hl2]
   generalize ws = zs
   induction zs with
   | nil => rfl
   | cons z zs ih => simpa [lentApart] using ih
  ·rw [hl2]
   have : ∀ (zs us : List AV), readFree (zs.map fun _ => none) us = true := by
    intro zs us
    have hfree : ∀ s, lentFree s (zs.map fun _ => none) = true := fun s => by
     induction zs with
     | nil => rfl
     | cons z zs ih => simpa [lentFree] using ih
    induction us with
    | nil => rfl
    | cons u us ih =>
     cases u <;> simp only [readFree, ih]
     rw [hfree]; rfl
   exact this ws ws
 have hpre : CallPre w (st.tag + 1) ws (ws.map fun _ => none) (cl.args.toList.map a.eval ++ caps) (seen m w) := by
  refine ⟨⟨rfl, fun _ _ hb => hb.elim⟩, ?_, ?_, fun k b hk => ?_, fun k j b b' _ hk => ?_⟩
  ·rw [zbz]
   exact fun g v hv => ⟨⟨(h.globs g v hv).1.1, zbp⟩, (h.globs g v hv).2⟩
  ·rw [zbz]; exact hvs
  ·rw [zbz] at hk; cases hk
  ·rw [zbz] at hk; cases hk
 have hinv := hΓ.one _ _ _ _ _ _ hg w _ _ hpre (by show GlobP P m.gl; exact h.gp hG)
 have hrun := zdl (P := P) (w := w) ho hf he
 have harr : cl.args.map a.eval ++ caps.toArray = (cl.args.toList.map a.eval ++ caps).toArray := by apply Array.ext'; simp
 rw [harr] at hrun
 have back : ∀ x w', CallPost w w' (st.tag + 1) (ws.map fun _ => none) lent' (seen m w) r x → ∃ m', RelM c nt st' a w' m' ∧ VR (At st' w' m') v x := by
  intro x w' hp
  have hle : lent' = ws.map fun _ => none := by
   apply List.ext_getElem?
   intro k
   by_cases hk : k < ws.length
   ·have h1 : (ws.map fun _ => (none : Option (List AV)))[k]? = some none := by simp [hk]
    rw [hp.none k h1, h1]
   ·rw [List.getElem?_eq_none (by rw [hp.len]; simpa using hk), List.getElem?_eq_none (by simpa using hk)]
  have hgb : giveBack st ((ws.map fun u => (u, (none : Option (List AV)), (none : Option (Nat × Nat × Nat)))).map (·.2.2)) lent' = some st := by
   rw [hl2, hle]
   generalize ws = zs
   induction zs with
   | nil => rfl
   | cons z zs ih => simpa [giveBack] using ih
  refine zgc h H (lent' := lent') (r := r) (x := x) (st1 := st) ?_ hgb (own := own) (d := d) hc
  rw [hl1, hl2, mpOf_none]
  exact hp
 intro next Q hn
 rw [hrun]
 rcases hinv with ⟨h1, h2⟩ | ⟨x, w', h1, h2⟩ | ⟨row, h1, h2⟩
 ·rw [h1]
  refine h2.mono ?_
  rintro e w' ⟨x, rfl, hpost⟩
  obtain ⟨m', k1, k2⟩ := back _ _ hpost
  exact hn _ _ _ k1 k2
 ·rw [h1]
  obtain ⟨m', k1, k2⟩ := back _ _ h2
  exact hn _ _ _ k1 k2
 ·rw [h1]
  refine Go.Rows.mono h2 ?_
  intro x w' hpost
  obtain ⟨m', k1, k2⟩ := back _ _ hpost
  exact hn _ _ _ k1 k2
theorem zi1 {cl : Call} {b : Builtin} (ho : o.op = .call cl) (hf : cl.callee = .builtin b) :
  ∃ cs, (execOp a.eval o).run P w = (builtin b cl.argTypes o.type cs (cl.args.map a.eval)).run P w := by
 refine ⟨cl.args.map fun | .const _ => true | _ => false, ?_⟩
 simp [execOp, ho, resolve, hf, invoke]
 rfl
theorem args_one {l : Array Operand} {s : S} {ev : Operand → Value} {avs : List AV} {x : AV} (h : VRs s false avs (l.toList.map ev)) (e : avs = [x]) : ∃ u, l.map ev = #[u] ∧ VR s x u := by
 rw [e] at h
 obtain ⟨u, hu, hv⟩ := h.one_inv
 exact ⟨u, by apply Array.ext'; simpa using hu, hv⟩
theorem zgq {l : Array Operand} {s : S} {ev : Operand → Value} {avs : List AV} {x y : AV} (h : VRs s false avs (l.toList.map ev)) (e : avs = [x, y]) : ∃ u z, l.map ev = #[u, z] ∧ VR s x u ∧ VR s y z := by
 rw [e] at h
 obtain ⟨u, z, hu, hv, hz⟩ := h.two_inv
 exact ⟨u, z, by apply Array.ext'; simpa using hu, hv, hz⟩
theorem ok_copy (hL : LOK P L) (h : RelM c nt st a w m) {t : Nat} {e : Nat} {j : TI} (hu : P.underlying t = some (.slice e)) (hj : TIOK P e j) (ty : Nat) (ts : Array Nat) (ht : ts[0]? = some t)
  {s : Nat} {g : Nat × Nat} {z off k n : Nat} {x : AV} {new cells : List AV} {vd vx : Value} (hd : VR (At st w m) (.msl s g z off k) vd) (hx : VR (At st w m) x vx) (hs : slCells st j.size x = some (n, new)) (hb : blkOf st s g = some cells)
  (hz : z = j.size) (hle : off + k * z ≤ cells.length) :
  ∃ w', (Builtin.copy_ ts ty #[vd, vx]).run P w = .ok (.int .i64 (min n k : Nat)) w' ∧ RelM c nt (putCells st s (setR cells off (new.take (min n k * z)))) a w' m := by
 subst hz
 obtain ⟨vs, hv, hlen, hx'⟩ := zhm h hx hs
 obtain ⟨blk, b1, b2, rfl⟩ := zap hb
 have hsl := hd.msl_inv b1 b2
 have hvl := hv.length
 have hmn : min n k * j.size ≤ n * j.size := Nat.mul_le_mul_right _ (Nat.min_le_left _ _)
 have hmk : min n k * j.size ≤ k * j.size := Nat.mul_le_mul_right _ (Nat.min_le_right _ _)
 have hread : ∃ spa scap, vx = .slice spa n scap ∧ (Builtin.firstCells j.size (min n k) (.slice spa n scap)).run P w = .ok (vs.take (min n k * j.size)).toArray w := by
  rcases hx' with ⟨ad, cap, rfl, _, hc⟩ | ⟨ad, cap, rfl, rfl⟩
  ·refine ⟨some ad, cap, rfl, run_first (by simp; omega) (fun i u hi => ?_)⟩
   rw [List.getElem?_take] at hi
   split at hi
   ·exact hc i u hi
   ·cases hi
  ·refine ⟨ad, cap, rfl, ?_⟩
   cases ad <;> simp [Builtin.firstCells, loadCells, loadCellsFrom]
 obtain ⟨spa, scap, rfl, hread⟩ := hread
 obtain ⟨w', q1, q2, _⟩ := h.write (P := P) (o := off) b1 (hv.take (min n k * j.size)) (by simp; omega)
 rcases hsl.2 with ⟨cap, rfl, hc, _⟩ | ⟨rfl, ad, rfl⟩
 ·exact ⟨w', run_copy hu hj ty ts ht _ _ _ _ _ _ _ hread q1, q2⟩
 ·have h0 : vs.take (min n 0 * j.size) = [] := by simp
  rw [h0] at q1
  simp only [storeCells, Sem.run_pure, Result.ok.injEq, true_and] at q1
  subst q1
  refine ⟨w, run_copy hu hj ty ts ht ad spa 0 0 n scap _ hread ?_, q2⟩
  cases ad <;> simp [h0, storeCells]
theorem ok_clear (hL : LOK P L) (h : RelM c nt st a w m) {t : Nat} {e : Nat} {j : TI} (hu : P.underlying t = some (.slice e)) (hj : TIOK P e j) (ty : Nat) (ts : Array Nat) (ht : ts[0]? = some t)
  {s : Nat} {g : Nat × Nat} {z off k : Nat} {cells : List AV} {vd : Value} (hd : VR (At st w m) (.msl s g z off k) vd) (hb : blkOf st s g = some cells)
  (hz : z = j.size) (hle : off + k * z ≤ cells.length) (hz0 : j.zero.length = z) :
  ∃ w', (Builtin.clear_ ts ty #[vd]).run P w = .ok (.tuple #[]) w' ∧ RelM c nt (putCells st s (setR cells off (repl k j.zero))) a w' m := by
 subst hz
 obtain ⟨blk, b1, b2, rfl⟩ := zap hb
 have hsl := hd.msl_inv b1 b2
 obtain ⟨zv, r1, r2, r3⟩ := hj.zeroVals (At st w m)
 have hz' : (Builtin.zeroCells zv.cells k).toList = (List.replicate k zv.cells.toList).flatten := by
  unfold Builtin.zeroCells
  exact zhf zv.cells k
 have hrl : (repl k j.zero).length = k * j.size := by simp [repl, hz0]
 obtain ⟨w', q1, q2, _⟩ := h.write (P := P) (o := off) b1 (r2.repl k) (by rw [hrl]; omega)
 rcases hsl.2 with ⟨cap, rfl, hc, _⟩ | ⟨rfl, ad, rfl⟩
 ·by_cases hk : k = 0
  ·subst hk
   simp only [List.replicate_zero, List.flatten_nil, storeCells, Sem.run_pure, Result.ok.injEq, true_and] at q1
   subst q1
   exact ⟨w, by simp [Builtin.clear_, ht, run_underlying hu], q2⟩
  ·refine ⟨w', ?_, q2⟩
   have : ∀ (ad : Addr), (Builtin.clear_ ts ty #[.slice (some ad) k cap]).run P w = ((storeCells ad (Builtin.zeroCells zv.cells k).toList).run P w).andThen fun _ w => .ok (.tuple #[]) w := by
    intro ad
    obtain ⟨k', rfl⟩ : ∃ k', k = k' + 1 := ⟨k - 1, by omega⟩
    simp [Builtin.clear_, ht, run_underlying hu, r1]
   rw [this, hz', q1]
   rfl
 ·simp only [List.replicate_zero, List.flatten_nil, storeCells, Sem.run_pure, Result.ok.injEq, true_and] at q1
  subst q1
  exact ⟨w, by cases ad <;> simp [Builtin.clear_, ht, run_underlying hu], q2⟩
theorem zho (hL : LOK P L) (h : RelM c nt st a w m) {cl : Call} {b : Builtin} (ho : o.op = .call cl) (hf : cl.callee = .builtin b) {d : Nat}
  {avs : List AV} (hargs : VRs (At st w m) false avs (cl.args.toList.map a.eval))
  (hc : aBuiltin L st d b cl.argTypes.toList avs = some (v, st')) (hdk : isMapKey d = false := by assumption) : Goes P c nt a o w v st' := by
 obtain ⟨cs, hrun⟩ := zi1 (P := P) (w := w) (a := a) ho hf
 generalize hts : cl.argTypes.toList = ts at hc
 have ht0 : ∀ {t : Nat} {r : List Nat}, ts = t :: r → cl.argTypes[0]? = some t := fun {t r} e => by
  have : cl.argTypes.toList[0]? = some t := by rw [hts, e]; rfl
  simpa using this
 unfold aBuiltin at hc
 split at hc
 ·
  rename_i t r x
  obtain ⟨u, e1, hu⟩ := args_one hargs rfl
  rw [e1] at hrun
  cases hi : L t with
  | none => simp [hi] at hc
  | some i =>
   simp only [hi, qO3, qO2] at hc
   split at hc
   ·rename_i hd
    split at hc
    ·rename_i s
     simp only [qO1, qO4] at hc
     obtain ⟨rfl, rfl⟩ := hc
     cases hu.str_inv
     refine za7 (w' := w) (m' := m) (y := .int .i64 s.size) ?_ h (.int _ _)
     rw [hrun]; simp [builtin, zpw (strBy hL hi hd) o.type _ (ht0 rfl)]
    ·cases hc
   ·rename_i e hd
    split at hc
    ·cases hc
    ·rename_i hns
     cases hn : slLen x with
     | none => simp [hn] at hc
     | some n =>
      simp only [hn, Option.map_some, qO1, qO4] at hc
      obtain ⟨rfl, rfl⟩ := hc
      rcases zlz hu hn with ⟨b, eb, _, _⟩ | ⟨pa, cap, rfl, _⟩
      ·exact (hns b eb).elim
      ·refine za7 (w' := w) (m' := m) (y := .int .i64 n) ?_ h (.int _ _)
       rw [hrun]; simp [builtin, zma (sliceBy (hL _ _ hi) hd) o.type _ (ht0 rfl)]
   ·rename_i n e hd
    simp only [qO1, qO4] at hc
    obtain ⟨rfl, rfl⟩ := hc
    refine za7 (w' := w) (m' := m) (y := .int .i64 n) ?_ h (.int _ _)
    rw [hrun]; simp [builtin, zq0 (arrBy hL hi hd) o.type _ (ht0 rfl)]
   ·cases hc
 ·
  rename_i t t' r s x
  obtain ⟨us, ux, e1, hus, hux⟩ := zgq hargs rfl
  rw [e1] at hrun
  cases he : slElem L t with
  | none => simp [he] at hc
  | some j =>
   simp only [he, qO3, qO2] at hc
   split at hc
   ·rename_i hcnd
    obtain ⟨rfl, hz0⟩ := hcnd
    obtain ⟨e, i, q1, q2, q3, q4⟩ := zeo hL he
    obtain ⟨y, w', m', g1, g2, g3⟩ := ok_append h (hL _ _ q1) q2 q4 hz0 o.type d hus hux hc
    refine za7 (y := y) (w' := w') (m' := m') ?_ g2 g3
    have : ∀ rest, cl.argTypes.toList = t' :: t' :: rest → (Builtin.append_ cl.argTypes o.type #[us, ux]).run P w = (Builtin.append_ #[t', t'] o.type #[us, ux]).run P w := by
     intro rest er
     have e0 : cl.argTypes[0]? = some t' := by have : cl.argTypes.toList[0]? = some t' := by rw [er]; rfl
                                               simpa using this
     have e1 : cl.argTypes[1]? = some t' := by have : cl.argTypes.toList[1]? = some t' := by rw [er]; rfl
                                               simpa using this
     unfold Builtin.append_
     rw [e0, e1]
     rfl
    rw [hrun]
    simp [builtin, this r hts, g1]
   ·cases hc
 ·
  rename_i t t' r s g z off k x
  obtain ⟨us, ux, e1, hus, hux⟩ := zgq hargs rfl
  rw [e1] at hrun
  cases he : slElem L t with
  | none => simp [he] at hc
  | some j =>
   cases he' : slElem L t' with
   | none => simp [he, he'] at hc
   | some j' =>
    cases hs : slCells st j.size x with
    | none => simp [he, he', hs] at hc
    | some p =>
     obtain ⟨n, new⟩ := p
     cases hb : blkOf st s g with
     | none => simp [he, he', hs, hb] at hc
     | some cells =>
      simp only [he, he', hs, hb, qO3, qO2] at hc
      split at hc
      ·rename_i hcnd
       simp only [qO1, qO4] at hc
       obtain ⟨rfl, rfl⟩ := hc
       obtain ⟨e, i, q1, q2, q3, q4⟩ := zeo hL he
       obtain ⟨w', g1, g2⟩ := ok_copy hL h q3 q4 o.type cl.argTypes (ht0 rfl) hus hux hs hb hcnd.1 hcnd.2
       refine za7 (w' := w') (m' := m) (y := .int .i64 (min n k : Nat)) ?_ g2 (.int _ _)
       rw [hrun]; simp [builtin, g1]
      ·cases hc
 ·
  rename_i t r s g z off k
  obtain ⟨us, e1, hus⟩ := args_one hargs rfl
  rw [e1] at hrun
  cases he : slElem L t with
  | none => simp [he] at hc
  | some j =>
   cases hb : blkOf st s g with
   | none => simp [he, hb] at hc
   | some cells =>
    simp only [he, hb, qO3, qO2] at hc
    split at hc
    ·rename_i hcnd
     obtain ⟨c1, c2, c3, c4⟩ := hcnd
     simp only [qO1, qO4] at hc
     obtain ⟨rfl, rfl⟩ := hc
     obtain ⟨e, i, q1, q2, q3, q4⟩ := zeo hL he
     obtain ⟨w', g1, g2⟩ := ok_clear hL h q3 q4 o.type cl.argTypes (ht0 rfl) hus hb c1 c2 c3
     refine za7 (w' := w') (m' := m) (y := .tuple #[]) ?_ g2 (.tup (vs := []) (.nil _))
     rw [hrun]; simp [builtin, g1]
    ·cases hc
 ·
  rename_i t r s g k
  obtain ⟨us, ux, e1, hus, hux⟩ := zgq hargs rfl
  rw [e1] at hrun
  cases ht : mapTy L t with
  | none => simp [ht] at hc
  | some q =>
   obtain ⟨kt, e⟩ := q
   simp only [ht, qO3, qO2] at hc
   cases hm : mapOf st s g with
   | none => simp [hm] at hc
   | some p =>
    obtain ⟨ks, vs⟩ := p
    simp only [hm, qO2] at hc
    split at hc
    ·rename_i hkk
     cases hp : mdel L kt k ks vs with
     | none => simp [hp] at hc
     | some p =>
      simp only [hp, qO2, qO1, qO4] at hc
      obtain ⟨rfl, rfl⟩ := hc
      obtain ⟨w', g1, g2⟩ := ok_delete (ty := o.type) hL h ht hm hus hux hkk hp cl.argTypes (ht0 rfl)
      refine za7 (w' := w') (m' := m) (y := .tuple #[]) ?_ g2 (.tup (vs := []) (.nil _))
      rw [hrun]; simp [builtin, g1]
    ·cases hc
 ·
  rename_i ks x y k'
  obtain ⟨us, ux, e1, hus, hux⟩ := zgq hargs rfl
  cases hus.int_inv
  cases hux.int_inv
  rw [e1] at hrun
  simp only [qO1, qO4] at hc
  obtain ⟨rfl, rfl⟩ := hc
  refine za7 (w' := w) (m' := m) ?_ h (.int _ _)
  rw [hrun]; simp [builtin, Builtin.min_, Builtin.min2, List.foldlM]
 ·
  rename_i ks x y k'
  obtain ⟨us, ux, e1, hus, hux⟩ := zgq hargs rfl
  cases hus.int_inv
  cases hux.int_inv
  rw [e1] at hrun
  simp only [qO1, qO4] at hc
  obtain ⟨rfl, rfl⟩ := hc
  refine za7 (w' := w) (m' := m) ?_ h (.int _ _)
  rw [hrun]; simp [builtin, Builtin.max_, Builtin.max2, List.foldlM]
 ·cases hc
theorem shorten_ok (h : RelM c nt st a w m) {avs avs' : List AV} {vs : List Value} (hargs : VRs (At st w m) false avs vs) {st1 : St} (hc : shorten st avs = some (avs', st1)) :
  ∃ m', RelM c nt st1 a w m' ∧ VRs (At st1 w m') false avs' vs := by
 unfold shorten at hc
 split at hc
 ·rename_i s g z o k r
  cases hb : blkOf st s g with
  | none => rw [hb] at hc; cases hc
  | some cells =>
   rw [hb] at hc
   simp only [qO2] at hc
   split at hc
   ·rename_i hle
    simp only [qO1, qO4] at hc
    obtain ⟨rfl, rfl⟩ := hc
    have hsk := zb1 hb
    obtain ⟨blk, h1, h2, rfl⟩ := zap hb
    have hT : Turn st w m s ⟨(st.tag, st.next), blk.cells.take (o + k * z)⟩ (st.next + 1) w (m.base s) (m.ext s) :=
     ⟨Pres.refl _ _, Nat.le_succ _, .inr (.inr ⟨⟨blk, h1⟩, rfl, Nat.le_refl _, Nat.le_refl _⟩), .inr zbr⟩
    have hl := hT.later
    have hB := h.blk s blk h1
    have hR : RelM c nt (newBlk st s (blk.cells.take (o + k * z))).2 a w (m.set s (m.base s) (m.ext s)) := by
     rw [zb4]
     refine h.turn hT ⟨zay _ _, fun e => ?_, cellsI hsk ?_⟩
     ·have := h.next1
      simp only [turned, qO4] at e
      omega
     ·rcases h.blkAt h1 with ⟨q1, q2⟩ | ⟨cs, e, fr, r1, r2, r3, r4, r5, us, r6, r7⟩
      ·exact .inl ⟨by simp [q1], by simpa [Mp.set] using q2⟩
      ·refine .inr ⟨cs, e, fr, by simpa [Mp.set] using r1, by simpa [Mp.set] using r2, by simp only [Mp.set, if_true, List.length_take]; omega, by simpa [Mp.set] using r4, by simpa [Mp.set] using r5, us.take (o + k * z), (r6.later hl).take _, fun j v hj => ?_⟩
       simp only [Mp.set, if_true]
       rw [List.getElem?_take] at hj
       split at hj
       ·exact r7 j v hj
       ·cases hj
    refine ⟨_, hR, ?_⟩
    cases hargs with
    | cons _ hv hs =>
     refine .cons (fun e => by cases e) ?_ (hs.move hl (.inl (Nat.le_refl _)))
     have hsl := hv.msl_inv h1 h2
     refine .msl (zay _ _) (by cases hv with | msl _ hv _ => exact hv) fun blk' hb' hs' => ?_
     simp only [At, newBlk, zan, if_true, qO1] at hb'
     subst hb'
     refine ⟨by simp only [List.length_take]; omega, ?_⟩
     simpa [Mp.set] using hsl.2
   ·cases hc
 ·simp only [qO1, qO4] at hc
  obtain ⟨rfl, rfl⟩ := hc
  exact ⟨m, h, hargs⟩
theorem denOp_goes (hL : LOK P L) (hΓ : OracleOK P Γ) (hG : GlobK P K c) (h : RelM c nt st a w m) {d : Nat} (hd : d = o.dst.getD 0) (hc : denOp L K Γ st d o.type o.op = some (v, st')) (hd5 : d < 500000)
  (hny : ∀ cl f y caps, o.op = .call cl → cl.callee = .value f → operand st f = .yld y caps → False) : Goes P c nt a o w v st' := by
 have hdk := zm2 hd5
 generalize hop : o.op = op at hc hny
 cases op <;> simp only [denOp] at hc <;> first | (cases hc; done) | skip
 case move x =>
  simp only [qO1, qO4] at hc
  obtain ⟨rfl, rfl⟩ := hc
  exact za7 (by simp [execOp, hop]) h (za6 h x)
 case assign x =>
  have hx := za6 h x
  split at hc
  ·rename_i v0 hv0
   rw [hv0] at hx
   split at hc
   ·cases he : slElem L o.type with
    | none => simp [he] at hc
    | some e =>
     simp only [he, Option.map_some, qO1, qO4] at hc
     obtain ⟨rfl, rfl⟩ := hc
     obtain ⟨pa, hu⟩ : ∃ pa, a.eval (.const v0) = .slice pa 0 0 := by generalize a.eval (.const v0) = y at hx; cases hx; exact ⟨_, rfl⟩
     have hT : Turn st w m d ⟨(st.tag, st.next), []⟩ (st.next + 1) w (0, 0) 0 := ⟨Pres.refl _ _, Nat.le_succ _, .inl rfl, .inr zbr⟩
     have hR := h.turn hT ⟨zay _ _, fun e => by
      have := h.next1
      simp only [turned, qO4] at e
      omega, cellsI hdk (.inl ⟨rfl, by simp [Mp.set]⟩)⟩
     refine za7 (y := a.eval (.const v0)) (w' := w) (m' := m.set d (0, 0) 0) (by simp [execOp, hop]) (by rw [zb4]; exact hR) ?_
     rw [hu]
     refine .msl (zay _ _) ⟨rfl, Nat.le_refl _⟩ fun blk hb hs => ?_
     simp only [At, newBlk, zan, if_true, qO1] at hb
     subst hb
     exact ⟨by simp, .inr ⟨rfl, pa, rfl⟩⟩
   ·simp only [qO1, qO4] at hc
    obtain ⟨rfl, rfl⟩ := hc
    exact za7 (by simp [execOp, hop]) h hx
  ·simp only [qO1, qO4] at hc
   obtain ⟨rfl, rfl⟩ := hc
   exact za7 (by simp [execOp, hop]) h hx
 case pick x y z =>
  have hx := za6 h x
  split at hc
  ·rename_i b hb
   rw [hb] at hx
   have e := hx.bool_inv
   simp only [qO1, qO4] at hc
   obtain ⟨rfl, rfl⟩ := hc
   refine za7 (y := if b then a.eval y else a.eval z) (by simp [execOp, hop, e, asBool]) h ?_
   cases b
   ·exact za6 h z
   ·exact za6 h y
  ·cases hc
 case alloc e =>
  cases hi : L e with
  | none => simp [hi] at hc
  | some i =>
   simp only [hi, qO3, qO2, qO1, qO4] at hc
   obtain ⟨rfl, rfl⟩ := hc
   obtain ⟨x, w', m', g1, g2, g3⟩ := ok_alloc h (hL _ _ hi) d
   exact za7 (by simp [execOp, hop, g1]) g2 g3
 case box e x =>
  split at hc
  ·rename_i hs
   simp only [qO1, qO4] at hc
   obtain ⟨rfl, rfl⟩ := hc
   obtain ⟨y, w', m', g1, g2, g3⟩ := ok_box (P := P) h e d (za6 h x) hs
   exact za7 (by simp [execOp, hop, g1]) g2 g3
  ·cases hc
 case build t ps =>
  cases hi : L t with
  | none => simp [hi] at hc
  | some i =>
   simp only [hi, qO3, qO2] at hc
   split at hc
   ·rename_i fs hd'
    cases hf : fillA (fun k => do let (o, ty) ← fs[k]?; let j ← L ty; some (o, j.size)) i.zero (parts st ps) with
    | none => simp only [qO3] at hf; rw [hf] at hc; cases hc
    | some cs =>
     have hf' := hf
     simp only [qO3] at hf'
     rw [hf'] at hc
     simp only [qO2, qO1, qO4] at hc
     obtain ⟨rfl, rfl⟩ := hc
     obtain ⟨vs, g1, g2⟩ := ok_build h (hL _ _ hi) hL ps (.inl ⟨fs, hd', hf⟩)
     exact za7 (by simp only [execOp, hop]; rw [Sem.run_bind, g1]; rfl) h g2
   ·rename_i n e hd'
    cases hj : L e with
    | none => simp [hj] at hc
    | some j =>
     simp only [hj, qO2] at hc
     cases hf : fillA (fun k => some (k * j.size, j.size)) i.zero (parts st ps) with
     | none => rw [hf] at hc; cases hc
     | some cs =>
      rw [hf] at hc
      simp only [qO2, qO1, qO4] at hc
      obtain ⟨rfl, rfl⟩ := hc
      obtain ⟨vs, g1, g2⟩ := ok_build h (hL _ _ hi) hL ps (.inr ⟨n, e, j, hd', hj, hf⟩)
      exact za7 (by simp only [execOp, hop]; rw [Sem.run_bind, g1]; rfl) h g2
   ·cases hc
 case buildSlice t n ps =>
  cases he : slElem L t with
  | none => simp [he] at hc
  | some j =>
   simp only [he, qO3, qO2] at hc
   split at hc
   ·rename_i hcnd
    cases hf : fillA (fun k => some (k * j.size, j.size)) (repl n j.zero) (parts st ps) with
    | none => rw [hf] at hc; cases hc
    | some cs =>
     rw [hf] at hc
     simp only [qO2, qO1, qO4] at hc
     obtain ⟨rfl, rfl⟩ := hc
     obtain ⟨e, i, q1, q2, q3, q4⟩ := zeo hL he
     obtain ⟨y, w', m', g1, g2, g3⟩ := zl8 h q3 q4 (parts_ok h ps) d hcnd.1 hcnd.2.1 hcnd.2.2 hf
     exact za7 (by simp only [execOp, hop]; rw [Sem.run_bind, g1]; rfl) g2 g3
   ·cases hc
 case load t x =>
  split at hc
  ·cases hc
  cases hi : L t with
  | none => simp [hi] at hc
  | some i =>
   simp only [hi, qO3, qO2] at hc
   cases hl : gLoad K.reads i st (operand st x) with
   | none => simp [hl] at hc
   | some y =>
    simp only [hl, qO2, qO1, qO4] at hc
    obtain ⟨rfl, rfl⟩ := hc
    obtain ⟨z, g1, g2⟩ := ok_gload h (hL _ _ hi) hG.rd hG.gp (za6 h x) hl
    exact za7 (by simp [execOp, hop, g1]) h g2
 case store t x y =>
  split at hc
  ·cases hc
  cases hi : L t with
  | none => simp [hi] at hc
  | some i =>
   simp only [hi, qO3, qO2] at hc
   cases hl : aStore i st (operand st x) (operand st y) with
   | none => simp [hl] at hc
   | some st2 =>
    simp only [hl, qO2, qO1, qO4] at hc
    obtain ⟨rfl, rfl⟩ := hc
    obtain ⟨w', m', g1, g2⟩ := ok_store h (hL _ _ hi) (za6 h x) (za6 h y) hl
    exact zo9 (by simp [execOp, hop, g1]) g2
 case nilCheck x =>
  have hx := za6 h x
  split at hc
  ·rename_i s g k hk
   simp only [qO1, qO4] at hc
   obtain ⟨rfl, rfl⟩ := hc
   rw [hk] at hx
   obtain ⟨b, o', e, _⟩ := hx.ref_add
   rw [e] at hx
   exact za7 (by simp [execOp, hop, e]) h hx
  ·rename_i cs hk
   simp only [qO1, qO4] at hc
   obtain ⟨rfl, rfl⟩ := hc
   rw [hk] at hx
   obtain ⟨b, o', e, _⟩ := hx.ipt_add
   rw [e] at hx
   exact za7 (by simp [execOp, hop, e]) h hx
  ·cases hc
 case binOp op t x y ty =>
  cases hb : aBinN L t op (isConstO x || isConstO y) (operand st x) (operand st y) with
  | none => simp [hb] at hc
  | some z =>
   simp only [hb, Option.map_some, qO1, qO4] at hc
   obtain ⟨rfl, rfl⟩ := hc
   obtain ⟨u, g1, g2⟩ := ok_binN (P := P) (s := At st w m) (h.gp hG.gp) h.globs hL (za6 h x) (za6 h y) x y hb
   exact za7 (by simp only [execOp, hop]; rw [Sem.run_bind, g1]; rfl) h g2
 case typeAssert x q t ok =>
  cases hb : aAs L t ok (operand st x) with
  | none => simp [hb] at hc
  | some z =>
   simp only [hb, Option.map_some, qO1, qO4] at hc
   obtain ⟨rfl, rfl⟩ := hc
   obtain ⟨u, g1, g2⟩ := ok_as (P := P) (w := w) (h.gp hG.gp) hL (xT := q) (za6 h x) hb
   exact za7 (by simp [execOp, hop, g1]) h g2
 case unOp op t x =>
  cases hb : aUn op (operand st x) with
  | none => simp [hb] at hc
  | some z =>
   simp only [hb, Option.map_some, qO1, qO4] at hc
   obtain ⟨rfl, rfl⟩ := hc
   obtain ⟨u, g1, g2⟩ := ok_un (P := P) (w := w) (za6 h x) hb
   exact za7 (by simp [execOp, hop, g1]) h g2
 case convert s t x =>
  cases hi : L s with
  | none => simp [hi] at hc
  | some i =>
   cases hj : L t with
   | none => simp [hi, hj] at hc
   | some j =>
    simp only [hi, hj, qO3, qO2] at hc
    split at hc
    ·rename_i k k' k'' n e1 e2 e3
     simp only [qO1, qO4] at hc
     obtain ⟨rfl, rfl⟩ := hc
     have hx := za6 h x
     rw [e3] at hx
     refine za7 (y := .int k' (k'.wrap n)) ?_ h (.int _ _)
     simp [execOp, hop, convert, run_underlying (intBy hL hi e1), run_underlying (intBy hL hj e2), hx.int_inv, Conv.intToInt]
    ·rename_i e e1 e2
     split at hc
     ·cases hc
     ·cases he : L e with
      | none => simp [he] at hc
      | some ie =>
       simp only [he, qO2] at hc
       split at hc
       ·rename_i e3
        cases hs : slCells st 1 (operand st x) with
        | none => simp [hs] at hc
        | some q =>
         obtain ⟨n, cells⟩ := q
         simp only [hs, qO2] at hc
         cases hx : u8s cells with
         | none => simp [hx] at hc
         | some xs =>
          simp only [hx, qO2, qO1, qO4] at hc
          obtain ⟨rfl, rfl⟩ := hc
          have g := zqc (P := P) h (sliceBy (hL _ _ hi) e1) (intBy hL he e3) (strBy hL hj e2) (za6 h x) hs hx
          exact za7 (by simp [execOp, hop, g]) h (.str _)
       ·cases hc
    ·cases hc
 case makeSlice t ln cp =>
  cases he : slElem L t with
  | none => simp [he] at hc
  | some j =>
   simp only [he, qO3, qO2] at hc
   split at hc
   ·rename_i k n k' n' e1 e2
    split at hc
    ·rename_i hcnd
     obtain ⟨c1, c0, c2, c3, c4, c5, c6⟩ := hcnd
     simp only [qO1, qO4] at hc
     obtain ⟨rfl, rfl⟩ := hc
     obtain ⟨e, i, q1, q2, q3, q4⟩ := zeo hL he
     obtain ⟨y, w', m', g1, g2, g3⟩ := znc (n := n.toNat) (k := n'.toNat) h q3 q4 d k k' (by omega) c2 c5 c6 c3 (by omega)
     have hl := za6 h ln
     have hp := za6 h cp
     rw [e1] at hl
     rw [e2] at hp
     rw [Int.toNat_of_nonneg c1, Int.toNat_of_nonneg (by omega)] at g1
     exact za7 (by simp only [execOp, hop, hl.int_inv, hp.int_inv]; rw [Sem.run_bind, g1]; rfl) g2 g3
    ·cases hc
   ·cases hc
 case makeMap t hint =>
  cases hint with
  | some _ => cases hc
  | none =>
   cases ht : mapTy L t with
   | none => simp [ht] at hc
   | some q =>
    simp only [ht, qO3, qO2, qO1, qO4] at hc
    obtain ⟨rfl, rfl⟩ := hc
    obtain ⟨y, w', m', g1, g2, g3⟩ := ok_makeMap (P := P) h t hd5
    exact za7 (by simp [execOp, hop, g1]) g2 g3
 case lookup t x ix ok =>
  split at hc
  ·cases hc
  cases ht : mapTy L t with
  | none => simp [ht] at hc
  | some q =>
   obtain ⟨kt, e⟩ := q
   cases hj : L e with
   | none => simp [ht, hj] at hc
   | some j =>
    have hx := za6 h x
    simp only [ht, hj, qO3, qO2] at hc
    have key : ∀ (ks vs : List AV) (es : Array MapEntry), ((a.eval x = .map none ∧ es = #[]) ∨ ∃ r n, a.eval x = .map (some r) ∧ w.heap[r]? = some (.map es n)) →
      VRs (At st w m) false ks (es.toList.map (·.key)) → VRs (At st w m) false vs (es.toList.map (·.val)) →
      ((mlook L kt j.zeroAV (operand st ix) ks vs).bind fun p => some (if ok then AV.tup [p.1, .bool p.2] else p.1, st)) = some (v, st') → Goes P c nt a o w v st' := by
     intro ks vs es hes hks hvs hh
     cases hl : mlook L kt j.zeroAV (operand st ix) ks vs with
     | none => simp [hl] at hh
     | some p =>
      obtain ⟨v0, is⟩ := p
      simp only [hl, qO2, qO1, qO4] at hh
      obtain ⟨rfl, rfl⟩ := hh
      obtain ⟨y, g1, g2⟩ := ok_lookup (s := At st w m) hL ht hj hes hks hvs (za6 h ix) hl ok
      exact za7 (by simp only [execOp, hop]; rw [Sem.run_bind]; simp only [At] at g1; rw [g1]; rfl) h g2
    cases hma : mapArg st (operand st x) with
    | none => simp [hma] at hc
    | some p =>
    obtain ⟨ks, vs⟩ := p
    simp only [hma, qO2] at hc
    unfold mapArg at hma
    split at hma
    ·rename_i s g hox
     rw [hox] at hx
     obtain ⟨es, n, e1, e2, e3, e4, _⟩ := h.mapRead hma hx
     exact key ks vs es (.inr ⟨_, n, e1, e2⟩) e3 e4 hc
    ·rename_i hox
     rw [hox] at hx
     simp only [qO1, qO4] at hma
     obtain ⟨rfl, rfl⟩ := hma
     generalize hy : a.eval x = y at hx
     cases hx with
     | imp hm hr hk hv tk tv => exact key _ _ _ (.inr ⟨_, _, hy, hm⟩) hk hv hc
    ·rename_i hox
     rw [hox] at hx
     simp only [qO1, qO4] at hma
     obtain ⟨rfl, rfl⟩ := hma
     have e1 : a.eval x = .map none := by generalize a.eval x = y at hx; cases hx; rfl
     exact key [] [] #[] (.inl ⟨e1, rfl⟩) (.nil _) (.nil _) hc
    ·cases hma
 case mapUpdate t x k y =>
  cases ht : mapTy L t with
  | none => simp [ht] at hc
  | some q =>
   obtain ⟨kt, e⟩ := q
   have hx := za6 h x
   simp only [ht, qO3, qO2] at hc
   split at hc
   ·rename_i s g hs
    rw [hs] at hx
    cases hm : mapOf st s g with
    | none => simp [hm] at hc
    | some p =>
     obtain ⟨ks, vs⟩ := p
     simp only [hm, qO2] at hc
     split at hc
     ·rename_i hcnd
      cases hp : mput L kt (operand st k) (operand st y) ks vs with
      | none => simp [hp] at hc
      | some p =>
       simp only [hp, qO2, qO1, qO4] at hc
       obtain ⟨rfl, rfl⟩ := hc
       obtain ⟨w', g1, g2⟩ := zn9 hL h ht hm hx (za6 h k) (za6 h y) hcnd.1 hcnd.2.2 hp
       exact zo9 (by simp [execOp, hop, g1]) g2
     ·cases hc
   ·cases hc
 case fieldAddr t x f =>
  cases hf : fieldOf L t f with
  | none => simp [hf] at hc
  | some p =>
   obtain ⟨k, j⟩ := p
   simp only [hf, qO3, qO2] at hc
   split at hc
   ·cases hc
   ·rename_i h0
    have hx := za6 h x
    split at hc
    ·rename_i s g o' hk
     simp only [qO1, qO4] at hc
     obtain ⟨rfl, rfl⟩ := hc
     rw [hk] at hx
     obtain ⟨b, o'', e, hadd⟩ := hx.ref_add
     exact za7 (by simp [execOp, hop, e, zhq hL hf h0]) h (hadd k)
    ·rename_i cs hk
     simp only [qO1, qO4] at hc
     obtain ⟨rfl, rfl⟩ := hc
     rw [hk] at hx
     obtain ⟨b, o'', e, hadd⟩ := hx.ipt_add
     exact za7 (by simp [execOp, hop, e, zhq hL hf h0]) h (hadd k)
    ·cases hc
 case field t x f =>
  cases hf : fieldOf L t f with
  | none => simp [hf] at hc
  | some p =>
   obtain ⟨k, j⟩ := p
   simp only [hf, qO3, qO2] at hc
   split at hc
   ·rename_i cs hk
    cases hr : rdCells j cs k with
    | none => simp [hr] at hc
    | some y =>
     simp only [hr, qO2, qO1, qO4] at hc
     obtain ⟨rfl, rfl⟩ := hc
     have hx := za6 h x
     rw [hk] at hx
     obtain ⟨z, g1, g2⟩ := ok_field (w := w) hL hf hx hr
     exact za7 (by simp [execOp, hop, g1]) h g2
   ·cases hc
 case sliceToArrayPointer t x =>
  split at hc
  ·cases hc
  cases hi : L t with
  | none => simp [hi] at hc
  | some i =>
   simp only [hi, qO3, qO2] at hc
   have hx := za6 h x
   split at hc
   ·rename_i n e hd'
    have hu := arrBy hL hi hd'
    have run : ∀ {ad : Addr} {len cap : Nat}, a.eval x = .slice (some ad) len cap → n ≤ len → (Instr.arrayAt t (a.eval x)).run P w = .ok (.pointer (some ad)) w := fun {ad len cap} e1 h1 => by
     rw [e1]
     simp [Instr.arrayAt, run_underlying hu, show ¬ len < n by omega, Result.andThen]
    have rd : ∀ {z len : Nat} {cells : List AV}, (∃ ad cap vs, a.eval x = .slice (some ad) len cap ∧ ad.spot = none ∧ cells.length = len * z ∧ Reads (At st w m) ad vs ∧ VRs (At st w m) true cells vs) ∨ (∃ ad cap, a.eval x = .slice ad 0 cap ∧ len = 0 ∧ cells = []) →
      n ≤ len → 0 < len → Goes P c nt a o w (.ipt cells) st := by
     intro z len cells hh h0 h1
     rcases hh with ⟨ad, cap, vs, e1, hs, _, hr, hv⟩ | ⟨ad, cap, e1, rfl, rfl⟩
     ·exact za7 (y := .pointer (some ad)) (by simp only [execOp, hop]; rw [Sem.run_bind, run e1 h0]; rfl) h (.ipt hs hr hv)
     ·omega
    split at hc
    ·rename_i s g z o' len hk'
     split at hc
     ·rename_i hb
      obtain ⟨b1, b2, b4⟩ := hb
      simp only [qO1, qO4] at hc
      obtain ⟨rfl, rfl⟩ := hc
      rw [hk'] at hx
      obtain ⟨cells, hcells⟩ := Option.isSome_iff_exists.1 b4
      obtain ⟨blk, q1, q2, q3⟩ := zap hcells
      have hok : okS st.tag st.next g := by cases hx with | msl hok _ _ => exact hok
      rcases (hx.msl_inv q1 q2).2 with ⟨cap, e1, _, _⟩ | ⟨e0, _⟩
      ·exact za7 (y := .pointer (some ⟨(m.base s).1, (m.base s).2 + o', none⟩)) (by simp only [execOp, hop]; rw [Sem.run_bind, run e1 b1]; rfl) h (.ref hok fun blk' _ _ => ⟨rfl, rfl⟩)
      ·omega
     ·cases hc
    ·rename_i z len cs hk'
     split at hc
     ·rename_i hb
      simp only [qO1, qO4] at hc
      obtain ⟨rfl, rfl⟩ := hc
      rw [hk'] at hx
      exact rd (VR.isl_inv (.inl hx)) hb.1 hb.2
     ·cases hc
    ·rename_i z len cs hk'
     split at hc
     ·rename_i hb
      simp only [qO1, qO4] at hc
      obtain ⟨rfl, rfl⟩ := hc
      rw [hk'] at hx
      exact rd (VR.isl_inv (.inr hx)) hb.1 hb.2
     ·cases hc
    ·cases hc
   ·cases hc
 case indexAddr t x ix =>
  split at hc
  ·cases hc
  cases hi : L t with
  | none => simp [hi] at hc
  | some i =>
   cases hk : asInt? (operand st ix) with
   | none => simp [hi, hk] at hc
   | some k =>
    simp only [hi, hk, qO3, qO2] at hc
    obtain ⟨kk, eix⟩ := zfh (za6 h ix) hk
    have hx := za6 h x
    split at hc
    ·rename_i n e hd'
     cases hj : L e with
     | none => simp [hj] at hc
     | some j =>
      simp only [hj, qO2] at hc
      split at hc
      ·rename_i hb
       have hu := arrBy hL hi hd'
       split at hc
       ·rename_i s g o' hk'
        simp only [qO1, qO4] at hc
        obtain ⟨rfl, rfl⟩ := hc
        rw [hk'] at hx
        obtain ⟨b, o'', e1, hadd⟩ := hx.ref_add
        exact za7 (by simp [execOp, hop, e1, eix, zeh hu (hL _ _ hj) kk k hb.1 hb.2]) h (hadd _)
       ·rename_i cs hk'
        simp only [qO1, qO4] at hc
        obtain ⟨rfl, rfl⟩ := hc
        rw [hk'] at hx
        obtain ⟨b, o'', e1, hadd⟩ := hx.ipt_add
        exact za7 (by simp [execOp, hop, e1, eix, zeh hu (hL _ _ hj) kk k hb.1 hb.2]) h (hadd _)
       ·cases hc
      ·cases hc
    ·rename_i e hd'
     cases hj : L e with
     | none => simp [hj] at hc
     | some j =>
      simp only [hj, qO2] at hc
      have hu := sliceBy (hL _ _ hi) hd'
      have rd : ∀ {z n : Nat} {cells : List AV}, (∃ ad cap vs, a.eval x = .slice (some ad) n cap ∧ ad.spot = none ∧ cells.length = n * z ∧ Reads (At st w m) ad vs ∧ VRs (At st w m) true cells vs) ∨ (∃ ad cap, a.eval x = .slice ad 0 cap ∧ n = 0 ∧ cells = []) →
        0 ≤ k → k < n → Goes P c nt a o w (.ipt (cells.drop (k.toNat * j.size))) st := by
       intro z n cells hh h0 h1
       rcases hh with ⟨ad, cap, vs, e1, hs, _, hr, hv⟩ | ⟨ad, cap, e1, rfl, rfl⟩
       ·refine za7 (y := .pointer (some (ad.add (k.toNat * j.size)))) (by simp [execOp, hop, e1, eix, zdq hu (hL _ _ hj) kk k h0 n cap h1 ad]) h ?_
        rw [zd7 hs]
        exact .ipt rfl (hr.drop _) (hv.drop _)
       ·omega
      split at hc
      ·rename_i s g z o' n hk'
       split at hc
       ·rename_i hb
        obtain ⟨b1, b2, b3, b4⟩ := hb
        simp only [qO1, qO4] at hc
        obtain ⟨rfl, rfl⟩ := hc
        rw [hk'] at hx
        obtain ⟨cells, hcells⟩ := Option.isSome_iff_exists.1 b4
        obtain ⟨blk, q1, q2, q3⟩ := zap hcells
        have hok : okS st.tag st.next g := by cases hx with | msl hok _ _ => exact hok
        rcases (hx.msl_inv q1 q2).2 with ⟨cap, e1, _, _⟩ | ⟨e0, _⟩
        ·refine za7 (y := .pointer (some ((⟨(m.base s).1, (m.base s).2 + o', none⟩ : Addr).add (k.toNat * j.size)))) ?_ h ?_
         ·have e1' : a.eval x = .slice (some ⟨(m.base s).1, (m.base s).2 + o', none⟩) n cap := e1
          simp [execOp, hop, e1', eix, zdq hu (hL _ _ hj) kk k b2 n cap b3]
         ·rw [zcn, Nat.add_assoc]
          exact .ref hok fun blk' _ _ => ⟨rfl, rfl⟩
        ·omega
       ·cases hc
      ·rename_i z n cs hk'
       split at hc
       ·rename_i hb
        simp only [qO1, qO4] at hc
        obtain ⟨rfl, rfl⟩ := hc
        rw [hk'] at hx
        exact rd (VR.isl_inv (.inl hx)) hb.2.1 hb.2.2
       ·cases hc
      ·rename_i z n cs hk'
       split at hc
       ·rename_i hb
        simp only [qO1, qO4] at hc
        obtain ⟨rfl, rfl⟩ := hc
        rw [hk'] at hx
        exact rd (VR.isl_inv (.inr hx)) hb.2.1 hb.2.2
       ·cases hc
      ·cases hc
    ·cases hc
 case index t x ix =>
  cases hi : L t with
  | none => simp [hi] at hc
  | some i =>
   cases hk : asInt? (operand st ix) with
   | none => simp [hi, hk] at hc
   | some k =>
    simp only [hi, hk, qO3, qO2] at hc
    obtain ⟨kk, eix⟩ := zfh (za6 h ix) hk
    have hx := za6 h x
    split at hc
    ·rename_i n e cs hd' hk'
     cases hj : L e with
     | none => simp [hj] at hc
     | some j =>
      simp only [hj, qO2] at hc
      split at hc
      ·rename_i hb
       cases hr : rdCells j cs (k.toNat * j.size) with
       | none => simp [hr] at hc
       | some y =>
        simp only [hr, qO2, qO1, qO4] at hc
        obtain ⟨rfl, rfl⟩ := hc
        rw [hk'] at hx
        obtain ⟨z, g1, g2⟩ := zml (w := w) (arrBy hL hi hd') (hL _ _ hj) hx kk k hb.1 hb.2 hr
        exact za7 (by simp [execOp, hop, eix, g1]) h g2
      ·cases hc
    ·rename_i s hd' hk'
     split at hc
     ·rename_i h0
      cases hb : s[k.toNat]? with
      | none => simp [hb] at hc
      | some u =>
       simp only [hb, Option.map_some, qO1, qO4] at hc
       obtain ⟨rfl, rfl⟩ := hc
       rw [hk'] at hx
       have := hx.str_inv
       exact za7 (by simp [execOp, hop, eix, this, zn5 (strBy hL hi hd') kk k h0 hb]) h (.int _ _)
     ·cases hc
    ·cases hc
 case slice t x lo hi' mx =>
  cases mx with
  | some mx =>
   simp only at hc
   split at hc
   ·cases hc
   ·cases hi : L t with
    | none => simp [hi] at hc
    | some i =>
     simp only [hi, qO3, qO2] at hc
     split at hc
     ·rename_i e hd'
      cases hj : L e with
      | none => simp [hj] at hc
      | some j =>
       simp only [hj, qO2] at hc
       cases hn : slLen (operand st x) with
       | none => simp [hn] at hc
       | some n =>
        cases hk : asInt? (operand st mx) with
        | none => simp [hn, hk] at hc
        | some k =>
         cases eh : bnd (-1) (hi'.map (operand st)) with
         | none => simp [hn, hk, eh] at hc
         | some hh =>
          cases el : bnd 0 (lo.map (operand st)) with
          | none => simp [hn, hk, eh, el] at hc
          | some l =>
           simp only [hn, hk, eh, el, qO2] at hc
           split at hc
           ·rename_i hcnd
            simp only [qO1, qO4] at hc
            obtain ⟨rfl, rfl⟩ := hc
            obtain ⟨y, g1, g2⟩ := ok_slice3 (P := P) h (sliceBy (hL _ _ hi) hd') (hL _ _ hj) hn hk eh el hcnd
            exact za7 (by simp only [execOp, hop]; rw [Sem.run_bind, g1]; rfl) h g2
           ·cases hc
     ·cases hc
  | none =>
  simp only at hc
  split at hc
  ·cases hc
  ·cases hi : L t with
   | none => simp [hi] at hc
   | some i =>
    simp only [hi, qO3, qO2] at hc
    have hx := za6 h x
    split at hc
    ·rename_i hd'
     cases hs : aStrSlice (operand st x) (lo.map (operand st)) (hi'.map (operand st)) with
     | none => simp [hs] at hc
     | some y =>
      simp only [hs, qO2, qO1, qO4] at hc
      obtain ⟨rfl, rfl⟩ := hc
      unfold aStrSlice at hs
      split at hs
      ·rename_i s hk'
       rw [hk'] at hx
       have ex := hx.str_inv
       cases eh : bnd s.size (hi'.map (operand st)) with
       | none => simp [eh] at hs
       | some hh =>
        cases el : bnd 0 (lo.map (operand st)) with
        | none => simp [eh, el] at hs
        | some l =>
         simp only [eh, el, qO3, qO2] at hs
         split at hs
         ·rename_i hb
          simp only [qO1] at hs
          subst hs
          obtain ⟨b1, b2, b3, b4⟩ := zja h el eh
          have hbd := zjl (P := P) (w := w) false s.size s.size (Nat.le_refl _) b1 b2 b3 b4 el eh hb.1 hb.2.1 hb.2.2
          have hu := strBy hL hi hd'
          exact za7 (by simp [execOp, hop, ex, Instr.sliceAt, Instr.slice, run_underlying hu, hbd]) h (.str _)
         ·cases hs
      ·cases hs
    ·rename_i e hd'
     cases hj : L e with
     | none => simp [hj] at hc
     | some j =>
      simp only [hj, qO2] at hc
      cases hs : aSlice j.size (operand st x) (lo.map (operand st)) (hi'.map (operand st)) with
      | none => simp [hs] at hc
      | some y =>
       simp only [hs, qO2, qO1, qO4] at hc
       obtain ⟨rfl, rfl⟩ := hc
       obtain ⟨z, g1, g2⟩ := ok_aSlice h (sliceBy (hL _ _ hi) hd') (hL _ _ hj) hs
       exact za7 (by simp only [execOp, hop, Option.map_none]; rw [Sem.run_bind, g1]; rfl) h g2
    ·rename_i n e hd'
     cases hj : L e with
     | none => simp [hj] at hc
     | some j =>
      simp only [hj, qO2] at hc
      split at hc
      ·rename_i s g k hk'
       cases hb : blkOf st s g with
       | none => simp [hb] at hc
       | some cells =>
        simp only [hb, qO2] at hc
        split at hc
        ·rename_i hle
         cases hs : aSlice j.size (.msl s g j.size k n) (lo.map (operand st)) (hi'.map (operand st)) with
         | none => simp [hs] at hc
         | some y =>
          simp only [hs, qO2, qO1, qO4] at hc
          obtain ⟨rfl, rfl⟩ := hc
          obtain ⟨z, g1, g2⟩ := znf h (arrBy hL hi hd') (hL _ _ hj) hk' hb hle hs
          exact za7 (by simp only [execOp, hop, Option.map_none]; rw [Sem.run_bind, g1]; rfl) h g2
        ·cases hc
      ·cases hc
    ·cases hc
 case extract x k =>
  split at hc
  ·rename_i vs hk'
   cases hv : vs[k]? with
   | none => simp [hv] at hc
   | some y =>
    simp only [hv, qO3, qO2, qO1, qO4] at hc
    obtain ⟨rfl, rfl⟩ := hc
    have hx := za6 h x
    rw [hk'] at hx
    obtain ⟨us, e1, hus⟩ := hx.tup_inv
    obtain ⟨u, g1, g2, _⟩ := hus.get hv
    exact za7 (by simp [execOp, hop, e1, Instr.extract, g1]) h g2
  ·cases hc
 case makeFunc fn first captured =>
  split at hc
  ·rename_i f
   split at hc
   ·rename_i h0
    split at hc
    ·rename_i htop
     simp only [qO1, qO4] at hc
     obtain ⟨rfl, rfl⟩ := hc
     have hf0 : first = #[] := Array.eq_empty_of_size_eq_zero h0
     subst hf0
     have key : ∀ l : List Operand, (l.map (operand st)).all AV.isRef = true → VRs (At st w m) true (l.map (operand st)) (l.map a.eval) := by
      intro l
      induction l with
      | nil => intro _; exact .nil _
      | cons x l ih =>
       intro hh
       simp only [List.map_cons, List.all_cons, qO5] at hh
       have hx := za6 h x
       have hr := hh.1
       show VRs _ true (operand st x :: l.map (operand st)) (a.eval x :: l.map a.eval)
       generalize operand st x = av at hx hr ⊢
       cases av <;> simp only [AV.isRef] at hr <;> first | (cases hr; done) | skip
       obtain ⟨b, o', e, _⟩ := hx.ref_add
       exact .cons (fun _ => ⟨by rw [e]; rfl, rfl⟩) hx (ih hh.2)
     refine za7 (y := .func (.func f) #[] (captured.map a.eval)) (by simp [execOp, hop, Instr.makeFunc]) h ?_
     have := VR.fn (s := At st w m) (f := f) (key captured.toList htop)
     have e : (captured.toList.map a.eval).toArray = captured.map a.eval := by apply Array.ext'; simp
     rw [e] at this
     exact this
    ·cases hc
   ·cases hc
  ·cases hc
 case call cl =>
  split at hc
  ·rename_i b hb
   split at hc
   ·simp only [qO6] at hc
    obtain ⟨⟨avs', st1⟩, h1, h2⟩ := hc
    obtain ⟨m1, g1, g2⟩ := shorten_ok h (zc7 h false cl.args.toList rfl) h1
    exact zho hL g1 hop hb g2 h2
   split at hc
   ·cases hc
   exact zho hL h hop hb (zc7 h false cl.args.toList rfl) hc
  ·rename_i f hf
   split at hc
   ·rename_i y captured hfn
    exact (hny cl f y captured rfl hf hfn).elim
   ·rename_i g captured hfn
    split at hc
    ·split at hc
     ·exact vCall_goes hΓ hG.gp h hop hf hfn hc
     exact hCall_goes hΓ hG.gp h hop hf hfn hc
    split at hc
    ·cases hc
    split at hc
    ·exact zkz hΓ hG.gp h hop hf hfn (zob (d := d) hc)
    exact zkz hΓ hG.gp h hop hf hfn hc
   ·cases hc
  ·cases hc
theorem zdb {r : Option Nat} {n : Nat} {f : FuncId} {args : Array Value} {w : World} {R : Ending → World → Prop} : CallsIn (fenR r) n P f args w R ↔ Calls P f args w R := by
 show CallsIn Fence.wide n P f args w R ↔ _
 exact callsIn_wide
theorem rowsIn_fen {r : Option Nat} {n : Nat} {row : String} {args : Array Value} {w : World} {R : Value → World → Prop} (h : Go.Rows P row args w R) : RowsIn (fenR r) n P row args w R := by
 show RowsIn Fence.wide n P row args w R
 exact fun c cs _ => let ⟨v, w', h1, h2⟩ := h c cs; ⟨v, w', h1, stepsIn_wide.2 h2⟩
theorem Goes.goesIn (h : Goes P c nt a o w v st') (hd : ∀ cl, o.op ≠ .defer cl) (r0 : Option Nat) (n : Nat) (next : Act → World → Prop) (Q : Exit → Act → World → Prop)
  (hn : ∀ y w' m', RelM c nt st' a w' m' → VR (At st' w' m') v y → next (a.put o.dst y) w') : o.wpIn (fenR r0) n P a w next Q := by
 refine ⟨fun _ _ => trivial, ?_⟩
 rw [Oper.semAt_eq _ _ _ hd]
 have := h next Q hn
 generalize (execOp a.eval o).run P w = res at this ⊢
 have hz : (fenR r0).depth.isSome = true → 1 ≤ n := fun e => by cases e
 cases res with
 | ok x w' =>
  cases x <;> first | exact this | exact this.elim | skip
  ·exact ⟨hz, zdb.2 this⟩
  ·exact ⟨hz, rowsIn_fen this⟩
 | halt x w' =>
  cases x <;> first | exact this | exact this.elim
theorem zjw {cl : Call} {f : Operand} (ho : o.op = .call cl) (hf : cl.callee = .value f) {l : Nat} (he : a.eval f = .func (.yield l) #[] #[]) :
  (execOp a.eval o).run P w = (Instr.yield l (cl.args.map a.eval)).run P w := by
 simp [execOp, ho, resolve, hf, he, Deferred.ofValue, invoke]
theorem VR.yld_inv {s : S} {y : YInfo} {cs : List AV} {x : Value} (h : VR s (.yld y cs) x) : ∃ l rec, x = .func (.yield l) #[] #[] ∧ s.w.heap[l]? = some (.loop rec) ∧ rec.state = .ready ∧ rec.pending = none ∧ YRec y rec ∧ VRs s true cs (y.slots.map fun k => rec.tmps.getD k undef) := by
 cases h with | yld h1 h2 h3 h4 h5 => exact ⟨_, _, rfl, h1, h2, h3, h4, h5⟩
theorem zmy (hΓ : OracleOK P Γ) (hG : GlobP P c.gl) (h : RelM c nt st a w m) {cl : Call} {f : Operand} (ho : o.op = .call cl) (hf : cl.callee = .value f) {y : YInfo} {d : Nat} {captured : List AV} (hfn : operand st f = .yld y captured)
  {rd : Option (List Nat)} (hc : yCall rd Γ st d y (cl.args.toList.map (operand st) ++ captured) = some (v, st')) (r0 : Option Nat) (n : Nat) (next : Act → World → Prop) (Q : Exit → Act → World → Prop)
  (hn : ∀ y w' m', RelM c nt st' a w' m' → VR (At st' w' m') v y → next (a.put o.dst y) w') : o.wpIn (fenR r0) n P a w next Q := by
 unfold yCall at hc
 split at hc
 ·rename_i htop
  have hv := za6 h f
  rw [hfn] at hv
  obtain ⟨l, rec, he, h1, h2, h3, h4, hcap⟩ := hv.yld_inv
  have hargs : VRs (At st w m) false (cl.args.toList.map (operand st) ++ captured) (cl.args.toList.map a.eval ++ y.slots.map fun k => rec.tmps.getD k undef) := (zc7 h false _ rfl).append hcap.weak
  generalize hav : cl.args.toList.map (operand st) ++ captured = avs at hc hargs htop
  obtain ⟨pk, lt, r, lent', hg, hpre, back⟩ := zhe h hc
  have htop' : (avs.map (ren (.inn st.tag) pk)).all AV.top = true := by
   rw [List.all_eq_true] at htop ⊢
   intro x hx
   obtain ⟨z, hz, rfl⟩ := List.mem_map.1 hx
   exact zp0 _ pk (htop z hz)
  obtain ⟨fn, tmps, assign, body, k1, k2⟩ := hΓ.rnd _ _ _ _ _ _ hg w _ _ l rec (hpre _ hargs) (h.gp hG) htop' h1 h2 h3 h4
  have hrun := zjw (P := P) (w := w) ho hf he
  have harr : cl.args.map a.eval = (cl.args.toList.map a.eval).toArray := by apply Array.ext'; simp
  rw [harr, k1] at hrun
  refine ⟨fun _ _ => trivial, ?_⟩
  rw [Oper.semAt_eq _ _ _ (fun c' e => by rw [ho] at e; cases e), hrun]
  refine ⟨fun e => (by cases e), (k2 r0 (n - 1)).mono ?_⟩
  rintro e w' ⟨x, rfl, m1, hpost⟩
  obtain ⟨m', g1, g2⟩ := back _ _ _ hpost
  exact hn _ _ _ g1 g2
 ·cases hc
theorem zet (hL : LOK P L) (hΓ : OracleOK P Γ) (hG : GlobK P K c) (h : RelM c nt st a w m) {d : Nat} (hd : d = o.dst.getD 0) (hc : denOp L K Γ st d o.type o.op = some (v, st')) (hd5 : d < 500000)
  (r0 : Option Nat) (n : Nat) (next : Act → World → Prop) (Q : Exit → Act → World → Prop)
  (hn : ∀ y w' m', RelM c nt st' a w' m' → VR (At st' w' m') v y → next (a.put o.dst y) w') : o.wpIn (fenR r0) n P a w next Q := by
 by_cases hy : ∃ cl f y caps, o.op = .call cl ∧ cl.callee = .value f ∧ operand st f = .yld y caps
 ·obtain ⟨cl, f, y, caps, ho, hf, hfn⟩ := hy
  rw [ho] at hc
  simp only [denOp, hf, hfn] at hc
  split at hc
  ·exact zmy hΓ hG.gp h ho hf hfn hc r0 n next Q hn
  ·cases hc
 ·exact (denOp_goes hL hΓ hG h hd hc hd5 fun cl f y caps h1 h2 h3 => hy ⟨cl, f, y, caps, h1, h2, h3⟩).goesIn (fun cl e => by rw [e] at hc; simp [denOp] at hc) r0 n next Q hn
end
end Go.Sim
end
