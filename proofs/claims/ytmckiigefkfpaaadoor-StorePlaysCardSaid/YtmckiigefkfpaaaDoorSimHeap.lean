/- Values under new names: how blocks are handed to a callee, and back. -/
import Derived.Test.YtmckiigefkfpaaaDoorSimRel
set_option linter.unusedVariables false
set_option linter.unusedSimpArgs false
namespace Go.Sim
open Go

/-- What has to hold that values stay related under new names. -/
structure Anew (s s' : S) (pk : Pk) : Prop where
  w : ∀ (b o : Nat) (v : Value), s.w.cell? ⟨b, o, none⟩ = some v → ¬ Held s b o → s'.w.cell? ⟨b, o, none⟩ = some v ∧ ¬ Held s' b o
  ok : ∀ k g k' g', look k g pk = some (k', g') → okS s'.tag s'.next g'
  live : ∀ k g k' g', look k g pk = some (k', g') → ∀ blk', aget k' s'.heap = some blk' → blk'.stamp = g' →
    ∃ blk, aget k s.heap = some blk ∧ blk.stamp = g ∧ s'.m.base k' = s.m.base k ∧ s.m.ext k ≤ s'.m.ext k' ∧ blk.cells.length = blk'.cells.length
  gl : s'.m.gl = s.m.gl

theorem Anew.reads {s s' : S} {pk : Pk} (h : Anew s s' pk) {a : Addr} {vs : List Value} (hr : Reads s a vs) : Reads s' a vs :=
  fun k v hk => h.w _ _ v (hr k v hk).1 (hr k v hk).2

theorem renL_length (pk : Pk) : ∀ cs : List AV, (renL pk cs).length = cs.length
  | [] => rfl
  | _ :: cs => by simp [renL, renL_length pk cs]

theorem ren_plain (pk : Pk) {c : AV} (h : c.plain = true) : ren pk c = c := by
  cases c <;> simp [AV.plain] at h <;> simp [ren]

theorem renL_plain (pk : Pk) : ∀ {cs : List AV}, cs.all AV.plain = true → renL pk cs = cs
  | [], _ => by simp [renL]
  | c :: cs, h => by
    simp only [List.all_cons, Bool.and_eq_true] at h
    simp [renL, ren_plain pk h.1, renL_plain pk h.2]

theorem ren_top (pk : Pk) {c : AV} (h : c.top = true) : (ren pk c).top = true := by
  cases c <;> simp [AV.top] at h <;> simp only [ren] <;> first | rfl | (split <;> rfl)

theorem renL_map (pk : Pk) : ∀ cs : List AV, renL pk cs = cs.map (ren pk)
  | [] => by simp [renL]
  | c :: cs => by simp [renL, renL_map pk cs]

mutual
theorem VR.ren {s s' : S} {pk : Pk} (h : Anew s s' pk) : ∀ {c : AV} {v : Value}, VR s c v → VR s' (Sim.ren pk c) v
  | _, _, .junk v => by simp only [Sim.ren]; exact .junk v
  | _, _, .bool b => by simp only [Sim.ren]; exact .bool b
  | _, _, .int k n => by simp only [Sim.ren]; exact .int k n
  | _, _, .str b => by simp only [Sim.ren]; exact .str b
  | _, _, .nilp => by simp only [Sim.ren]; exact .nilp
  | _, _, .ref hok hl => by
      simp only [Sim.ren]
      split
      · rename_i k' g' hk
        refine .ref (h.ok _ _ _ _ hk) fun blk' hb hs => ?_
        obtain ⟨blk, h1, h2, h3, _, _⟩ := h.live _ _ _ _ hk blk' hb hs
        rw [h3]; exact hl blk h1 h2
      · exact .junk _
  | _, _, .msl hok hv hl => by
      simp only [Sim.ren]
      split
      · rename_i k' g' hk
        refine .msl (h.ok _ _ _ _ hk) hv fun blk' hb hs => ?_
        obtain ⟨blk, h1, h2, h3, h4, h5⟩ := h.live _ _ _ _ hk blk' hb hs
        have := hl blk h1 h2
        unfold SlOK at *
        rw [h3, ← h5]
        refine ⟨this.1, this.2.imp (fun ⟨cap, e1, e2, e3⟩ => ⟨cap, e1, e2, Nat.le_trans e3 h4⟩) id⟩
      · exact .junk _
  | _, _, .isl ha hcap hlen hr hv => by
      simp only [Sim.ren]
      exact .isl ha hcap (by rw [renL_length]; exact hlen) (h.reads hr) (hv.ren h)
  | _, _, .islnil => by simp only [Sim.ren, renL]; exact .islnil
  | _, _, .fsl (sz := sz) (o := o) hB hb hsz hcap hlen hv hc hf => by
      simp only [Sim.ren]
      have h2 := hv.length
      have h3 := Nat.mul_le_mul_right sz hcap
      refine .isl rfl hcap hlen (fun k u hk => ?_) (hv.vrs s' true)
      have h1 := (List.getElem?_eq_some_iff.1 hk).1
      exact h.w _ _ _ (by rw [block_cell hb]; exact hc k u hk) (hf (o + k) (by omega) (by omega)).2
  | _, _, .fslnil => by simp only [Sim.ren]; exact .islnil
  | _, _, .nsl => by simp only [Sim.ren]; exact .nsl
  | _, _, .ipt ha hr hv => by simp only [Sim.ren]; exact .ipt ha (h.reads hr) (hv.ren h)
  | _, _, .agg hv => by simp only [Sim.ren]; exact .agg (hv.ren h)
  | _, _, .tup hv => by simp only [Sim.ren]; exact .tup (hv.ren h)
  | _, _, .nilI => by simp only [Sim.ren]; exact .nilI
  | _, _, .nilF => by simp only [Sim.ren]; exact .nilF
  | _, _, .nilM => by simp only [Sim.ren]; exact .nilM
  | _, _, .gref g => by simp only [Sim.ren]; exact .gref g
  | _, _, .err hg => by simp only [Sim.ren]; exact .err (by rw [h.gl]; exact hg)
  | _, _, .mref hok hl => by
      simp only [Sim.ren]
      split
      · rename_i k' g' hk
        refine .mref (h.ok _ _ _ _ hk) fun blk' hb hs => ?_
        obtain ⟨blk, h1, h2, h3, _, _⟩ := h.live _ _ _ _ hk blk' hb hs
        rw [h3]; exact hl blk h1 h2
      · exact .junk _
  | _, _, .fn hv => by simp only [Sim.ren]; exact .fn (hv.ren h)
theorem VRs.ren {s s' : S} {pk : Pk} (h : Anew s s' pk) : ∀ {one : Bool} {cs : List AV} {vs : List Value}, VRs s one cs vs → VRs s' one (renL pk cs) vs
  | _, _, _, .nil _ => by simp only [renL]; exact .nil _
  | _, _, _, .cons h1 hv hs => by
      simp only [renL]
      exact .cons (fun e => ⟨(h1 e).1, ren_top pk (h1 e).2⟩) (hv.ren h) (hs.ren h)
end

/-! ## blocks under new names -/

def BlkM (c : Cx) (s : S) (k : Nat) (b : Blk) : Prop := if isMapKey k then MapOK c s k b else CellsOK c s k b

theorem renL_top (pk : Pk) : ∀ {cs : List AV}, cs.all AV.top = true → (renL pk cs).all AV.top = true
  | [], _ => by simp [renL]
  | c :: cs, h => by
    simp only [List.all_cons, Bool.and_eq_true] at h
    simp only [renL, List.all_cons, ren_top pk h.1, renL_top pk h.2, Bool.and_self]

theorem BlkM.ren {c c' : Cx} {s s' : S} {pk : Pk} (h : Anew s s' pk) (hw : s'.w = s.w) {k k' : Nat} {b : Blk} {g' : Nat × Nat} (hk : isMapKey k' = isMapKey k)
    (hb : s'.m.base k' = s.m.base k) (he : s'.m.ext k' = s.m.ext k) (hnp : isMapKey k' = false → c'.np ≤ k' → k' < 1000000 → c'.w0.heap.size ≤ (s.m.base k).1)
    (hreg : ∀ o, (s.m.base k).2 ≤ o → o < (s.m.base k).2 + s.m.ext k → c'.w0.heap.size ≤ (s.m.base k).1 ∨ c'.A (s.m.base k).1 o)
    (hm : BlkM c s k b) : BlkM c' s' k' ⟨g', renL pk b.cells⟩ := by
  unfold BlkM at *
  rw [hk]
  split
  · rename_i hi
    rw [if_pos hi] at hm
    obtain ⟨ks, vs, es, n, g1, g2, g3, g4, g5, g6, g7, g8, g9⟩ := hm
    refine ⟨renL pk ks, renL pk vs, es, n, by simp [g1, renL, Sim.ren], by rw [hb, hw]; exact g2, by rw [hb]; exact g3, by rw [he]; exact g4, ?_, g6.ren h, g7.ren h, renL_top pk g8, renL_top pk g9⟩
    rw [hb]
    exact hreg 0 (by omega) (by omega)
  · rename_i hi
    rw [if_neg hi] at hm
    rcases hm with hm | ⟨cs, e, fr, g1, g2, g3, g4, g5, vs, g6, g7⟩
    · exact .inl ⟨by simp [hm.1, renL], by rw [he]; exact hm.2⟩
    · refine .inr ⟨cs, e, fr, by rw [hb, hw]; exact g1, by rw [hb, he]; exact g2, by rw [he]; simpa [renL_length] using g3, fun a1 a2 => by rw [hb]; exact hnp (by rw [hk]; simpa using hi) a1 a2, fun o o1 o2 => ?_, vs, g6.ren h, fun j v hj => by rw [hb]; exact g7 j v hj⟩
      rw [hb] at o1 o2 ⊢
      rw [he] at o2
      exact ⟨(g5 o o1 o2).1, hreg o o1 o2⟩

theorem look_mem {k : Nat} {g : Nat × Nat} {k' : Nat} {g' : Nat × Nat} : ∀ {pk : Pk}, look k g pk = some (k', g') → (k, g, k', g') ∈ pk
  | [], h => by simp [look] at h
  | (k0, g0, k1, g1) :: l, h => by
    simp only [look] at h
    split at h
    · rename_i e
      obtain ⟨rfl, rfl⟩ := e
      cases h
      exact List.mem_cons_self
    · exact List.mem_cons_of_mem _ (look_mem h)

/-- The old key of a new one. -/
def byNew (k' : Nat) : Pk → Option Nat
  | [] => none
  | (k0, _, k1, _) :: l => if k1 = k' then some k0 else byNew k' l

theorem distinct_nodup : ∀ {l : List Nat}, distinct l = true → l.Nodup
  | [], _ => List.nodup_nil
  | k :: l, h => by
    simp only [distinct, Bool.and_eq_true, Bool.not_eq_true'] at h
    refine List.nodup_cons.2 ⟨?_, distinct_nodup h.2⟩
    intro hm
    have := List.contains_iff_mem.2 hm
    rw [h.1] at this
    cases this

theorem byNew_mem {k : Nat} {g : Nat × Nat} {k' : Nat} {g' : Nat × Nat} : ∀ {pk : Pk}, (pk.map (·.2.2.1)).Nodup → (k, g, k', g') ∈ pk → byNew k' pk = some k
  | [], _, h => by simp at h
  | (k0, g0, k1, g1) :: l, hd, h => by
    simp only [List.map_cons, List.nodup_cons] at hd
    simp only [byNew]
    rcases List.mem_cons.1 h with e | e
    · cases e; simp
    · rw [if_neg, byNew_mem hd.2 e]
      rintro rfl
      exact hd.1 (List.mem_map.2 ⟨_, e, rfl⟩)

theorem packed_mem {st : St} {pk : Pk} {tag k' : Nat} {b' : Blk} : ∀ {l0 : Pk} {l : List (Option (List AV))}, packed st pk l0 = some l → aget k' (hHeap tag l) = some b' →
    ∃ k g g' b, (k, g, k', g') ∈ l0 ∧ aget k st.heap = some b ∧ b.stamp = g ∧ b' = ⟨(tag, 0), renL pk b.cells⟩
  | [], l, h, hb => by simp only [packed, Option.some.injEq] at h; subst h; simp [hHeap, aget] at hb
  | (k, g, k1, g1) :: l0, l, h, hb => by
    simp only [packed] at h
    split at h
    · rename_i b hk
      split at h
      · rename_i hg
        obtain ⟨r, hr, e⟩ := Option.map_eq_some_iff.1 h
        subst e
        simp only [hHeap, aget] at hb
        split at hb
        · rename_i e
          subst e
          cases hb
          exact ⟨k, g, g1, b, List.mem_cons_self, hk, hg, rfl⟩
        · obtain ⟨k2, g2, g3, b2, m1, m2, m3, m4⟩ := packed_mem hr hb
          exact ⟨k2, g2, g3, b2, List.mem_cons_of_mem _ m1, m2, m3, m4⟩
      · cases h
    · cases h


theorem visit_stamp {rd : Option (List Nat)} {st : St} {g' : Nat × Nat} : ∀ {n : Nat} {wl : List (AV × Nat)} {pk0 pk : Pk}, visit rd st g' n wl pk0 = some pk → (∀ x ∈ pk0, x.2.2.2 = g' ∧ okKey rd x.1 = true) → ∀ x ∈ pk, x.2.2.2 = g' ∧ okKey rd x.1 = true
  | n, [], pk0, pk, h, h0 => by
    unfold visit at h
    cases h; exact h0
  | 0, _ :: _, pk0, pk, h, h0 => by unfold visit at h; cases h
  | n + 1, (v, p) :: rest, pk0, pk, h, h0 => by
    unfold visit at h
    split at h
    · split at h
      · exact visit_stamp h h0
      · split at h
        · rename_i hok
          split at h
          · split at h
            · refine visit_stamp h fun x hx => ?_
              rcases List.mem_append.1 hx with e | e
              · exact h0 x e
              · rw [List.mem_singleton.1 e]
                exact ⟨rfl, hok⟩
            · exact visit_stamp h h0
          · exact visit_stamp h h0
        · cases h
    · exact visit_stamp h h0

/-- The map of places under the new names. -/
def mpk (m : Mp) (pk : Pk) (B : Nat) (ban : Nat → Nat → Prop) : Mp :=
  { base := fun k' => match byNew k' pk with | some k => m.base k | none => (0, 0)
    ext := fun k' => match byNew k' pk with | some k => m.ext k | none => 0
    B := B
    ban := ban
    gl := m.gl }

variable {c : Cx} {nt : Nat} {st : St} {a : Act} {w : World} {m : Mp}

structure Packed (st : St) (m : Mp) (pk : Pk) (tag : Nat) (l : List (Option (List AV))) (s' : S) : Prop where
  news : (pk.map (·.2.2.1)).Nodup
  olds : (pk.map (·.1)).Nodup
  keys : ∀ x ∈ pk, isMapKey x.1 = isMapKey x.2.2.1
  stamps : ∀ x ∈ pk, x.2.2.2 = (tag, 0)
  blk : ∀ k' b', aget k' s'.heap = some b' → ∃ k g b, (k, g, k', (tag, 0)) ∈ pk ∧ aget k st.heap = some b ∧ b.stamp = g ∧ b' = ⟨(tag, 0), renL pk b.cells⟩ ∧ s'.m.base k' = m.base k ∧ s'.m.ext k' = m.ext k

theorem packed_ok {pk : Pk} {tag B : Nat} {ban : Nat → Nat → Prop} {l : List (Option (List AV))} (hp : pkOk pk = true) (hs : ∀ x ∈ pk, x.2.2.2 = (tag, 0)) (hl : packed st pk pk = some l) :
    Packed st m pk tag l ⟨w, hHeap tag l, mpk m pk B ban, tag, 1⟩ := by
  simp only [pkOk, Bool.and_eq_true, List.all_eq_true, beq_iff_eq] at hp
  refine ⟨distinct_nodup hp.1.2, distinct_nodup hp.1.1, hp.2, hs, fun k' b' hb => ?_⟩
  obtain ⟨k, g, g', b, m1, m2, m3, m4⟩ := packed_mem hl hb
  have e : g' = (tag, 0) := hs _ m1
  subst e
  exact ⟨k, g, b, m1, m2, m3, m4, by simp [mpk, byNew_mem (distinct_nodup hp.1.2) m1], by simp [mpk, byNew_mem (distinct_nodup hp.1.2) m1]⟩

theorem Packed.own {pk : Pk} {tag B : Nat} {ban : Nat → Nat → Prop} {l : List (Option (List AV))} {s' : S} (h : Packed st m pk tag l s') {b o : Nat} (ho : Own s' b o) : Own (At st w m) b o := by
  obtain ⟨k', b', h1, h2, h3, h4⟩ := ho
  obtain ⟨k, g, b0, m1, m2, m3, m4, m5, m6⟩ := h.blk k' b' h1
  exact ⟨k, b0, m2, by rw [← m5]; exact h2, by rw [← m5]; exact h3, by rw [← m5, ← m6]; exact h4⟩

theorem Packed.anew {pk : Pk} {tag : Nat} {l : List (Option (List AV))} {s' : S} (h : Packed st m pk tag l s') (hw : s'.w = w) (ht : s'.tag = tag) (hn : s'.next = 1)
    (hban : ∀ b o, s'.m.ban b o → Held (At st w m) b o) (hgl : s'.m.gl = m.gl) : Anew (At st w m) s' pk := by
  refine ⟨fun b o v hc hh => ⟨by rw [hw]; exact hc, fun hx => hh ?_⟩, fun k g k' g' hk => ?_, fun k g k' g' hk blk' hb hs => ?_, hgl⟩
  · exact hx.elim (fun x => .inl (h.own (B := 0) (ban := fun _ _ => False) x)) (fun x => hban b o x)
  · rw [show g' = (tag, 0) from h.stamps _ (look_mem hk), ht, hn]
    exact okS_new tag 0
  · obtain ⟨k2, g2, b2, m1, m2, m3, m4, m5, m6⟩ := h.blk k' blk' hb
    have hm := look_mem hk
    rw [show g' = (tag, 0) from h.stamps _ hm] at hm
    have e : (k2, g2, k', (tag, 0)) = (k, g, k', (tag, 0)) := by
      have := byNew_mem h.news m1
      rw [byNew_mem h.news hm] at this
      cases this
      have key : ∀ {l : Pk} {x y : Nat × (Nat × Nat) × Nat × (Nat × Nat)}, (l.map (·.1)).Nodup → x ∈ l → y ∈ l → x.1 = y.1 → x = y := by
        intro l
        induction l with
        | nil => intro x y _ hx; cases hx
        | cons z l ih =>
          intro x y hd hx hy e
          simp only [List.map_cons, List.nodup_cons] at hd
          rcases List.mem_cons.1 hx with rfl | hx' <;> rcases List.mem_cons.1 hy with rfl | hy'
          · rfl
          · exact (hd.1 (e ▸ List.mem_map_of_mem hy')).elim
          · exact (hd.1 (e ▸ List.mem_map_of_mem hx')).elim
          · exact ih hd.2 hx' hy' e
      exact key h.olds m1 hm rfl
    cases e
    exact ⟨b2, m2, m3, m5, Nat.le_of_eq m6.symm, by rw [m4]; simp [renL_length]⟩

theorem Packed.apart (hR : RelM c nt st a w m) {pk : Pk} {tag : Nat} {l : List (Option (List AV))} {s' : S} (h : Packed st m pk tag l s') :
    ∀ k j b b', k ≠ j → aget k s'.heap = some b → aget j s'.heap = some b' → (s'.m.base k).1 = (s'.m.base j).1 →
      ∀ o, ¬ ((s'.m.base k).2 ≤ o ∧ o < (s'.m.base k).2 + s'.m.ext k ∧ (s'.m.base j).2 ≤ o ∧ o < (s'.m.base j).2 + s'.m.ext j) := by
  intro k j b b' hne hk hj
  obtain ⟨k0, g0, b0, m1, m2, m3, m4, m5, m6⟩ := h.blk k b hk
  obtain ⟨j0, g1, b1, n1, n2, n3, n4, n5, n6⟩ := h.blk j b' hj
  rw [m5, m6, n5, n6]
  refine hR.apart k0 j0 b0 b1 ?_ m2 n2
  rintro rfl
  have key : ∀ {l : Pk} {x y : Nat × (Nat × Nat) × Nat × (Nat × Nat)}, (l.map (·.1)).Nodup → x ∈ l → y ∈ l → x.1 = y.1 → x = y := by
    intro l
    induction l with
    | nil => intro x y _ hx; cases hx
    | cons z l ih =>
      intro x y hd hx hy e
      simp only [List.map_cons, List.nodup_cons] at hd
      rcases List.mem_cons.1 hx with rfl | hx' <;> rcases List.mem_cons.1 hy with rfl | hy'
      · rfl
      · exact (hd.1 (e ▸ List.mem_map_of_mem hy')).elim
      · exact (hd.1 (e ▸ List.mem_map_of_mem hx')).elim
      · exact ih hd.2 hx' hy' e
  have := key h.olds m1 n1 rfl
  cases this
  exact hne rfl

end Go.Sim
