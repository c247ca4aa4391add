/- What comes back of a call that took memory with it. -/
import Derived.Test.YtmckiigefkfpaaaDoorSimHCall
set_option linter.unusedVariables false
set_option linter.unusedSimpArgs false
namespace Go.Sim
open Go

/-- A name that is brought is no slot's own, if it is no root's. -/
theorem bring_big {d : Nat} {pk : Pk} {n p : Nat} (h : pk.find? (fun x => x.2.2.1 == p) = none) : 1000000 ≤ bring d pk n p := by
  cases n with
  | zero => simp only [bring, nest]; omega
  | succ n =>
    simp only [bring, h]
    split <;> simp only [nest] <;> omega

theorem find_filter {pk : Pk} {roots : List Nat} {k : Nat} (h : (if roots.contains k then pk.find? (fun x => x.2.2.1 == k) else none) = none) :
    (pk.filter fun x => roots.contains x.2.2.1).find? (fun x => x.2.2.1 == k) = none := by
  rw [List.find?_eq_none]
  intro x hx hk
  rw [List.mem_filter] at hx
  simp only [beq_iff_eq] at hk
  rw [hk] at hx
  rw [if_pos hx.2, List.find?_eq_none] at h
  exact h x hx.1 (by simpa using hk)

/-- What was named is what came back, in its order. -/
theorem backPk_mem {st : St} {d tag : Nat} {pk : Pk} {roots : List Nat} : ∀ {r : List (Option (List AV))} {bk : Pk}, backPk st d tag pk roots r = some bk →
    ∀ x ∈ bk, x.2.1 = (tag, 0) ∧ ((roots.contains x.1 = true ∧ ∃ y ∈ pk, y.2.2.1 = x.1 ∧ x.2.2.1 = y.1 ∧ x.2.2.2 = y.2.1) ∨ (x.2.2.2 = (st.tag, st.next) ∧ 1000000 ≤ x.2.2.1))
  | [], bk, h, x, hx => by simp only [backPk, Option.some.injEq] at h; subst h; cases hx
  | none :: r, bk, h, x, hx => by simp [backPk] at h
  | some [] :: r, bk, h, x, hx => by simp [backPk] at h
  | some (c :: cells) :: r, bk, h, x, hx => by
    cases c with
    | mref k' g' =>
      simp only [backPk, Option.bind_eq_bind, Option.bind_eq_some_iff] at h
      obtain ⟨rest, h1, h2⟩ := h
      split at h2
      · rename_i y hy
        cases h2
        rcases List.mem_cons.1 hx with rfl | hx'
        · split at hy
          · rename_i hr
            have hm := List.mem_of_find?_eq_some hy
            have he := List.find?_some hy
            simp only [beq_iff_eq] at he
            exact ⟨rfl, .inl ⟨hr, y, hm, he, rfl, rfl⟩⟩
          · cases hy
        · exact backPk_mem h1 x hx'
      · rename_i hy
        cases h2
        rcases List.mem_cons.1 hx with rfl | hx'
        · exact ⟨rfl, .inr ⟨rfl, bring_big (find_filter hy)⟩⟩
        · exact backPk_mem h1 x hx'
    | _ => simp [backPk] at h

/-- The names stand beside what came back. -/
inductive backPkLike (tag : Nat) : Pk → List (Option (List AV)) → Prop
  | nil : backPkLike tag [] []
  | cons {k' : Nat} {h : Nat × Nat} {g : Nat × Nat} {k2 : Nat} {g2 : Nat × Nat} {cells : List AV} {bk : Pk} {r : List (Option (List AV))} (hs : backPkLike tag bk r) :
      backPkLike tag ((k', g, k2, g2) :: bk) (some (.mref k' h :: cells) :: r)

theorem backPk_like {st : St} {d tag : Nat} {pk : Pk} {roots : List Nat} : ∀ {r : List (Option (List AV))} {bk : Pk}, backPk st d tag pk roots r = some bk → backPkLike tag bk r
  | [], bk, h => by simp only [backPk, Option.some.injEq] at h; subst h; exact .nil
  | none :: r, bk, h => by simp [backPk] at h
  | some [] :: r, bk, h => by simp [backPk] at h
  | some (c :: cells) :: r, bk, h => by
    cases c with
    | mref k' g' =>
      simp only [backPk, Option.bind_eq_bind, Option.bind_eq_some_iff] at h
      obtain ⟨rest, h1, h2⟩ := h
      split at h2
      · cases h2; exact .cons (backPk_like h1)
      · cases h2; exact .cons (backPk_like h1)
    | _ => simp [backPk] at h

/-- A block that was laid down again came back under a callee's name. -/
theorem backHeap_mem {tag : Nat} {pk : Pk} {k : Nat} {b : Blk} : ∀ {bk : Pk} {r : List (Option (List AV))}, backPkLike tag bk r → (bk.map (·.1)).Nodup → aget k (backHeap pk bk r) = some b →
    ∃ k' g' g cells, (k', g', k, g) ∈ bk ∧ aget k' (hHeap tag r) = some ⟨(tag, 0), cells⟩ ∧ b = ⟨g, renL pk cells⟩
  | _, _, .nil, _, h => by simp [backHeap, aget] at h
  | _, _, .cons (k' := k1) (h := g1) (g := g0) (k2 := k2) (g2 := g2) (cells := cells) hs, hd, h => by
    simp only [List.map_cons, List.nodup_cons] at hd
    simp only [backHeap, aget] at h
    split at h
    · rename_i e
      subst e
      cases h
      exact ⟨k1, g0, g2, cells, List.mem_cons_self, by simp [hHeap, aget], rfl⟩
    · obtain ⟨k', g', g, cs, m1, m2, m3⟩ := backHeap_mem hs hd.2 h
      refine ⟨k', g', g, cs, List.mem_cons_of_mem _ m1, ?_, m3⟩
      simp only [hHeap, aget]
      rw [if_neg]
      · exact m2
      · rintro rfl
        exact hd.1 (List.mem_map.2 ⟨_, m1, rfl⟩)

theorem backOk_mem {st : St} {roots : List Nat} {tag k' : Nat} {g' : Nat × Nat} {k : Nat} {g : Nat × Nat} {cells : List AV} : ∀ {bk : Pk} {r : List (Option (List AV))}, backPkLike tag bk r → backOk st roots bk r = true → (bk.map (·.1)).Nodup →
    (k', g', k, g) ∈ bk → aget k' (hHeap tag r) = some ⟨(tag, 0), cells⟩ → roots.contains k' = true → lenOf st k = some cells.length
  | _, _, .nil, _, _, h, _, _ => by cases h
  | _, _, .cons (k' := k1) (h := g1) (g := g0) (k2 := k2) (g2 := g2) (cells := cs) hs, ho, hd, h, ha, hr => by
    simp only [List.map_cons, List.nodup_cons] at hd
    simp only [backOk, Bool.and_eq_true] at ho
    simp only [hHeap, aget] at ha
    rcases List.mem_cons.1 h with e | e
    · cases e
      rw [if_pos rfl] at ha
      cases ha
      have := ho.1
      rw [if_pos hr] at this
      simpa using this
    · rw [if_neg] at ha
      · exact backOk_mem hs ho.2 hd.2 e ha hr
      · rintro rfl
        exact hd.1 (List.mem_map.2 ⟨_, e, rfl⟩)

theorem aget_filter2 {α : Type} (k : Nat) (f : Nat → Bool) {v : α} : ∀ (l : List (Nat × α)), aget k (l.filter fun p => f p.1) = some v → aget k l = some v ∧ f k = true
  | l, h => ⟨aget_filter k f l h, by
      cases hf : f k with
      | true => rfl
      | false =>
        exfalso
        have : ∀ (l : List (Nat × α)), aget k (l.filter fun p => f p.1) = none := fun l => by
          induction l with
          | nil => rfl
          | cons p l ih =>
            simp only [List.filter_cons]
            split
            · rename_i hp
              obtain ⟨i, w⟩ := p
              simp only [aget]
              rw [if_neg (fun e => by simp only at hp; rw [e, hf] at hp; cases hp)]
              exact ih
            · exact ih
        rw [this l] at h
        cases h⟩

theorem byNew_none {k : Nat} : ∀ {pk : Pk}, (∀ x ∈ pk, x.2.2.1 ≠ k) → byNew k pk = none
  | [], _ => rfl
  | (k0, g0, k1, g1) :: l, h => by
    simp only [byNew]
    rw [if_neg (h _ List.mem_cons_self)]
    exact byNew_none fun x hx => h x (List.mem_cons_of_mem _ hx)

theorem Pk.key {l : Pk} {x y : Nat × (Nat × Nat) × Nat × (Nat × Nat)} (hd : (l.map (·.1)).Nodup) (hx : x ∈ l) (hy : y ∈ l) (e : x.1 = y.1) : x = y := by
  induction l with
  | nil => cases hx
  | cons z l ih =>
    simp only [List.map_cons, List.nodup_cons] at hd
    rcases List.mem_cons.1 hx with rfl | hx' <;> rcases List.mem_cons.1 hy with rfl | hy'
    · rfl
    · exact (hd.1 (e ▸ List.mem_map_of_mem hy')).elim
    · exact (hd.1 (e ▸ List.mem_map_of_mem hx')).elim
    · exact ih hd.2 hx' hy'

theorem Pk.key2 {l : Pk} {x y : Nat × (Nat × Nat) × Nat × (Nat × Nat)} (hd : (l.map (·.2.2.1)).Nodup) (hx : x ∈ l) (hy : y ∈ l) (e : x.2.2.1 = y.2.2.1) : x = y := by
  induction l with
  | nil => cases hx
  | cons z l ih =>
    simp only [List.map_cons, List.nodup_cons] at hd
    rcases List.mem_cons.1 hx with rfl | hx' <;> rcases List.mem_cons.1 hy with rfl | hy'
    · rfl
    · exact (hd.1 (e ▸ List.mem_map_of_mem hy')).elim
    · exact (hd.1 (e ▸ List.mem_map_of_mem hx')).elim
    · exact ih hd.2 hx' hy'

theorem packed_has {st : St} {pk : Pk} {k : Nat} {g : Nat × Nat} {k' : Nat} {g' : Nat × Nat} : ∀ {l0 : Pk} {l : List (Option (List AV))}, packed st pk l0 = some l → (k, g, k', g') ∈ l0 → ∃ b, aget k st.heap = some b ∧ b.stamp = g
  | [], l, _, h => by cases h
  | (z1, z2, z3, z4) :: l0, l, hl, hx => by
    simp only [packed] at hl
    split at hl
    · rename_i bb hbb
      split at hl
      · rename_i hg0
        obtain ⟨r0, hr0, _⟩ := Option.map_eq_some_iff.1 hl
        rcases List.mem_cons.1 hx with e | e
        · cases e
          exact ⟨bb, hbb, hg0⟩
        · exact packed_has hr0 e
      · cases hl
    · cases hl

theorem look_of {k : Nat} {g : Nat × Nat} {k' : Nat} {g' : Nat × Nat} : ∀ {bk : Pk}, (bk.map (·.1)).Nodup → (k, g, k', g') ∈ bk → look k g bk = some (k', g')
  | [], _, hx => by cases hx
  | (z1, z2, z3, z4) :: bk, hd, hx => by
    simp only [List.map_cons, List.nodup_cons] at hd
    simp only [look]
    rcases List.mem_cons.1 hx with e | e
    · cases e; simp
    · rw [if_neg]
      · exact look_of hd.2 e
      · rintro ⟨rfl, _⟩
        exact hd.1 (List.mem_map.2 ⟨_, e, rfl⟩)

theorem BlkM.mine {c : Cx} {s : S} {k : Nat} {b : Blk} (h : BlkM c s k b) {o : Nat} (h1 : (s.m.base k).2 ≤ o) (h2 : o < (s.m.base k).2 + s.m.ext k) : c.w0.heap.size ≤ (s.m.base k).1 ∨ c.A (s.m.base k).1 o := by
  unfold BlkM at h
  split at h
  · obtain ⟨ks, vs, es, n, _, _, g1, g2, g3, _⟩ := h
    have : o = 0 := by omega
    subst this
    exact g3
  · rcases h with h | ⟨cs, e, fr, _, _, _, _, g, _⟩
    · omega
    · exact (g o h1 h2).2

section
variable {P : Program} {c : Cx} {nt : Nat} {st : St} {a : Act} {w : World} {m : Mp}

/-- The state behind a call that took memory with it. -/
def backSt (st : St) (pk bk : Pk) (r : List (Option (List AV))) : St :=
  { st with
    heap := backHeap bk bk r ++ st.heap.filter fun p => !(pk.map (·.1)).contains p.1 && !(bk.map (·.2.2.1)).contains p.1
    next := st.next + 1 }

/-- What of ours isn't handed over. -/
def kept (st : St) (w : World) (m : Mp) (s0 : S) (b o : Nat) : Prop := (Own (At st w m) b o ∧ ¬ Own s0 b o) ∨ m.ban b o

/-- The places behind the call. -/
def mbk (m m1 : Mp) (bk : Pk) : Mp :=
  { base := fun k => match byNew k bk with | some k' => m1.base k' | none => m.base k
    ext := fun k => match byNew k bk with | some k' => m1.ext k' | none => m.ext k
    B := m.B
    ban := m.ban
    gl := m.gl }

/-- The places at the call. -/
def mpre (st : St) (w : World) (m : Mp) (pk : Pk) (l : List (Option (List AV))) : Mp :=
  mpk m pk w.heap.size (kept st w m (HS w (st.tag + 1) l (mpk m pk w.heap.size fun _ _ => False)))

theorem hCall_pre (h : RelM c nt st a w m) {pk : Pk} {l : List (Option (List AV))} {args : List AV} {vs : List Value}
    (hpk : pkOk pk = true) (hst : ∀ y ∈ pk, y.2.2.2 = (st.tag + 1, 0)) (hl : packed st pk pk = some l) (hv : VRs (At st w m) false args vs) :
    HPre w (st.tag + 1) (args.map (ren pk)) l vs (mpre st w m pk l) := by
  have hP : Packed st m pk (st.tag + 1) l (HS w (st.tag + 1) l (mpre st w m pk l)) := packed_ok hpk hst hl
  have hban : ∀ b o, (mpre st w m pk l).ban b o → Held (At st w m) b o := fun b o hb => hb.elim (fun x => .inl x.1) .inr
  have hA := hP.anew (w := w) rfl rfl rfl hban rfl
  refine ⟨⟨rfl, fun b o hb => ?_⟩, fun g v hv => ⟨hA.w _ _ _ (h.globs g v hv).1.1 (h.globs g v hv).1.2, (h.globs g v hv).2⟩, ?_, hP.mem h hban rfl rfl fun k b hb o o1 o2 => .inr ⟨k, b, hb, rfl, o1, o2⟩⟩
  · rcases hb with ⟨⟨k, b0, h1, h2, h3, h4⟩, _⟩ | hb
    · have := (h.blk k b0 h1).lt
      simp only at this h2 h3 h4
      omega
    · exact Nat.lt_of_lt_of_le (h.mB.2.1 b o hb) h.pres.size
  · rw [← renL_map]
    exact hv.ren hA

theorem hCall_back (h : RelM c nt st a w m) {pk bk : Pk} {l r : List (Option (List AV))} {d : Nat} {args : List AV} {v : AV} {x : Value} {w' : World} {m1 : Mp}
    (hpk : pkOk pk = true) (hst : ∀ y ∈ pk, y.2.2.2 = (st.tag + 1, 0)) (hl : packed st pk pk = some l)
    (hbk : backPk st d (st.tag + 1) pk (rootKeys args) r = some bk) (hbo : pkOk bk = true) (hok : backOk st (rootKeys args) bk r = true)
    (hp : HPost w w' (st.tag + 1) args l r (mpre st w m pk l) m1 v x) :
    ∃ m2, RelM c nt (backSt st pk bk r) a w' m2 ∧ VR (At (backSt st pk bk r) w' m2) (ren bk v) x := by
  have hP : Packed st m pk (st.tag + 1) l (HS w (st.tag + 1) l (mpre st w m pk l)) := packed_ok hpk hst hl
  have own0 : ∀ b o, Own (HS w (st.tag + 1) l (mpre st w m pk l)) b o → Own (At st w m) b o := fun b o ho => hP.own (B := 0) (ban := fun _ _ => False) ho
  have hbo' := hbo
  simp only [pkOk, Bool.and_eq_true, List.all_eq_true, beq_iff_eq] at hbo
  obtain ⟨⟨hbo1, hbo2⟩, hbo3⟩ := hbo
  have hb1 := distinct_nodup hbo1
  have hb2 := distinct_nodup hbo2
  have hlike := backPk_like hbk
  have hmem := backPk_mem hbk
  have hBw : c.w0.heap.size ≤ w.heap.size := h.pres.size
  have hww : w.heap.size ≤ w'.heap.size := hp.pres.size
  have mineOwn : ∀ b o, Own (At st w m) b o → c.w0.heap.size ≤ b ∨ c.A b o := by
    rintro b o ⟨k, b0, h1, h2, h3, h4⟩
    exact h2 ▸ (h.blk k b0 h1).mine h3 h4
  -- a block behind the call
  have split : ∀ k b, aget k (backSt st pk bk r).heap = some b →
      (∃ k' g cells, (k', (st.tag + 1, 0), k, g) ∈ bk ∧ aget k' (hHeap (st.tag + 1) r) = some ⟨(st.tag + 1, 0), cells⟩ ∧ b = ⟨g, renL bk cells⟩ ∧ (mbk m m1 bk).base k = m1.base k' ∧ (mbk m m1 bk).ext k = m1.ext k') ∨
      (aget k st.heap = some b ∧ (∀ y ∈ pk, y.1 ≠ k) ∧ (mbk m m1 bk).base k = m.base k ∧ (mbk m m1 bk).ext k = m.ext k) := by
    intro k b hb
    simp only [backSt, aget_append, Option.or_eq_some_iff] at hb
    rcases hb with hb | ⟨_, hb⟩
    · obtain ⟨k', g', g, cells, q1, q2, q3⟩ := backHeap_mem hlike hb1 hb
      have := (hmem _ q1).1
      simp only at this
      subst this
      exact .inl ⟨k', g, cells, q1, q2, q3, by simp [mbk, byNew_mem hb2 q1], by simp [mbk, byNew_mem hb2 q1]⟩
    · obtain ⟨q1, q2⟩ := aget_filter2 k (fun k => !(pk.map (·.1)).contains k && !(bk.map (·.2.2.1)).contains k) _ hb
      simp only [Bool.and_eq_true, Bool.not_eq_true'] at q2
      have q3 : ∀ y ∈ pk, y.1 ≠ k := fun y hy e => by
        have : (pk.map (·.1)).contains k = true := List.contains_iff_mem.2 (e ▸ List.mem_map_of_mem hy)
        rw [q2.1] at this; cases this
      have q4 : byNew k bk = none := byNew_none fun y hy e => by
        have : (bk.map (·.2.2.1)).contains k = true := List.contains_iff_mem.2 (e ▸ List.mem_map_of_mem (f := fun y => y.2.2.1) hy)
        rw [q2.2] at this; cases this
      exact .inr ⟨q1, q3, by simp [mbk, q4], by simp [mbk, q4]⟩
  -- where a block lies that came back
  have region : ∀ k' b, aget k' (hHeap (st.tag + 1) r) = some b → ∀ o, (m1.base k').2 ≤ o → o < (m1.base k').2 + m1.ext k' →
      w.heap.size ≤ (m1.base k').1 ∨ Own (HS w (st.tag + 1) l (mpre st w m pk l)) (m1.base k').1 o :=
    fun k' b hb o o1 o2 => (hp.mem.blk k' b hb).2.mine o1 o2
  have apartOld : ∀ k b, aget k st.heap = some b → (∀ y ∈ pk, y.1 ≠ k) → ∀ o, (m.base k).2 ≤ o → o < (m.base k).2 + m.ext k → ¬ Own (HS w (st.tag + 1) l (mpre st w m pk l)) (m.base k).1 o := by
    intro k b hb hn o o1 o2 ⟨k', b', t1, t2, t3, t4⟩
    obtain ⟨k0, g0, b0, u1, u2, u3, u4, u5, u6⟩ := hP.blk k' b' t1
    simp only at t2 t3 t4 u5 u6
    rw [u5] at t2 t3 t4
    rw [u6] at t4
    exact h.apart k0 k b0 b (fun e => hn _ u1 e) u2 hb t2 o ⟨t3, t4, o1, o2⟩
  -- a root is where it was
  have root : ∀ k' k g cells, (k', (st.tag + 1, 0), k, g) ∈ bk → aget k' (hHeap (st.tag + 1) r) = some ⟨(st.tag + 1, 0), cells⟩ → okS st.tag st.next g →
      ∃ b0, aget k st.heap = some b0 ∧ b0.stamp = g ∧ m1.base k' = m.base k ∧ m1.ext k' = m.ext k ∧ b0.cells.length = cells.length := by
    intro k' k g cells q1 q2 hg
    rcases (hmem _ q1).2 with ⟨q3, y, q4, q5, q6, q7⟩ | ⟨q3, _⟩
    · simp only at q3 q5 q6 q7
      have hroot := hp.root k' (List.contains_iff_mem.1 q3) _ q2
      have hbn : byNew k' pk = some k := by
        obtain ⟨y1, y2, y3, y4⟩ := y
        simp only at q5 q6 q7
        subst q5 q6
        exact byNew_mem hP.news q4
      have hcell := backOk_mem hlike hok hb1 q1 q2 q3
      simp only [lenOf, Option.map_eq_some_iff] at hcell
      obtain ⟨b0, c1, c2⟩ := hcell
      refine ⟨b0, c1, ?_, ?_, ?_, c2⟩
      · obtain ⟨y1, y2, y3, y4⟩ := y
        simp only at q5 q6 q7
        subst q5 q6
        subst q7
        obtain ⟨b1, z1, z2⟩ := packed_has hl q4
        rw [c1] at z1
        cases z1
        exact z2
      · rw [hroot.1]; simp [mpre, mpk, hbn]
      · rw [hroot.2]; simp [mpre, mpk, hbn]
    · simp only at q3
      rw [q3] at hg
      exact (okS_fresh hg).elim
  have ownNow : ∀ b o, b < w.heap.size → Own (At (backSt st pk bk r) w' (mbk m m1 bk)) b o → Own (At st w m) b o := by
    rintro b o hlt ⟨k, b', h1, h2, h3, h4⟩
    simp only at h1 h2 h3 h4
    rcases split k b' h1 with ⟨k', g, cells, q1, q2, q3, q4, q5⟩ | ⟨q1, q2, q3, q4⟩
    · rw [q4] at h2 h3 h4
      rw [q5] at h4
      rcases region k' _ q2 o h3 h4 with y | y
      · omega
      · exact h2 ▸ own0 _ _ y
    · rw [q3] at h2 h3 h4
      rw [q4] at h4
      exact ⟨k, b', q1, h2, h3, h4⟩
  have hlater : Later (At st w m) (At (backSt st pk bk r) w' (mbk m m1 bk)) := by
    refine ⟨hp.pres.mono fun b o _ ho => own0 b o ho, ownNow, fun site blk' hb hok' => ?_, fun σ hσ => okS_mono hσ (Nat.le_succ _), fun b o _ hb => .inr hb, rfl⟩
    rcases split site blk' hb with ⟨k', g, cells, q1, q2, q3, q4, q5⟩ | ⟨q1, q2, q3, q4⟩
    · subst q3
      obtain ⟨b0, r1, r2, r3, r4, r5⟩ := root k' site g cells q1 q2 hok'
      exact ⟨b0, r1, r2, q4.trans r3, q5.trans r4, by rw [r5, renL_length]⟩
    · exact ⟨blk', q1, rfl, q3, q4, rfl⟩
  have hanew : Anew (HS w' (st.tag + 1) r m1) (At (backSt st pk bk r) w' (mbk m m1 bk)) bk := by
    refine ⟨fun b o u hc hh => ⟨hc, fun hx => hh ?_⟩, fun k g k' g' hk => ?_, fun k g k' g' hk blk' hb hs => ?_, hp.mB.2.2.symm⟩
    · rcases hx with ⟨k, b', h1, h2, h3, h4⟩ | hx
      · simp only at h1 h2 h3 h4
        rcases split k b' h1 with ⟨k', g, cells, q1, q2, q3, q4, q5⟩ | ⟨q1, q2, q3, q4⟩
        · rw [q4] at h2 h3 h4
          rw [q5] at h4
          exact .inl ⟨k', _, q2, h2, h3, h4⟩
        · rw [q3] at h2 h3 h4
          rw [q4] at h4
          refine .inr ?_
          show m1.ban b o
          rw [hp.mB.2.1]
          exact .inl ⟨⟨k, b', q1, h2, h3, h4⟩, h2 ▸ apartOld k b' q1 q2 o h3 h4⟩
      · refine .inr ?_
        show m1.ban b o
        rw [hp.mB.2.1]
        exact .inr hx
    · rcases (hmem _ (look_mem hk)).2 with ⟨q3, y, q4, q5, q6, q7⟩ | ⟨q3, _⟩
      · simp only at q5 q6 q7
        obtain ⟨y1, y2, y3, y4⟩ := y
        simp only at q5 q6 q7
        subst q7
        obtain ⟨b0, z1, z2⟩ := packed_has hl q4
        have := (h.blk y1 b0 z1).1
        rw [z2] at this
        exact okS_mono this (Nat.le_succ _)
      · simp only at q3
        rw [q3]
        exact okS_new _ _
    · simp only at hb
      rcases split k' blk' hb with ⟨k0, g0, cells, q1, q2, q3, q4, q5⟩ | ⟨q1, q2, q3, q4⟩
      · have := Pk.key2 hb2 (look_mem hk) q1 rfl
        cases this
        exact ⟨_, q2, rfl, q4, Nat.le_of_eq q5.symm, by rw [q3]; simp [renL_length]⟩
      · have hbn : byNew k' bk = some k := byNew_mem hb2 (look_mem hk)
        simp only [backSt, aget_append, Option.or_eq_some_iff] at hb
        exfalso
        rcases hb with hb | ⟨_, hb⟩
        · obtain ⟨k0, g0, g1, cells, z1, z2, z3⟩ := backHeap_mem hlike hb1 hb
          rcases (hmem _ z1).2 with ⟨y1, y, y2, y3, y4, y5⟩ | ⟨y1, y2⟩
          · exact q2 y y2 (by simp only at y4; exact y4.symm)
          · simp only at y1 y2
            have := (h.blk k' blk' q1).1
            rw [z3, y1] at this
            exact okS_fresh this
        · have := (aget_filter2 k' (fun k => !(pk.map (·.1)).contains k && !(bk.map (·.2.2.1)).contains k) _ hb).2
          simp only [Bool.and_eq_true, Bool.not_eq_true'] at this
          have h2 : (bk.map (·.2.2.1)).contains k' = true := List.contains_iff_mem.2 (List.mem_map_of_mem (f := fun y => y.2.2.1) (look_mem hk))
          rw [this.2] at h2; cases h2
  refine ⟨mbk m m1 bk, ⟨h.defers, h.size, Nat.le_succ_of_le h.next1, h.mB, fun k u hk => (h.env k u hk).move hlater (.inl (Nat.le_refl _)), ?_, fun k b hb => ?_, fun i j bi bj hij hi hj => ?_⟩, hp.res.ren hanew⟩
  · refine h.pres.trans hp.pres (fun _ _ _ x => x) (fun b o hlt ho => ?_)
    rcases mineOwn b o (own0 b o ho) with y | y
    · omega
    · exact y
  · rcases split k b hb with ⟨k', g, cells, q1, q2, q3, q4, q5⟩ | ⟨q1, q2, q3, q4⟩
    · subst q3
      refine ⟨?_, fun hz => ?_, ?_⟩
      · exact hanew.ok k' (st.tag + 1, 0) k g (look_of hb1 q1)
      · simp only at hz
        have hg : okS st.tag st.next g := by rw [hz]; exact .inr ⟨rfl, h.next1⟩
        obtain ⟨b0, r1, r2, r3, r4, r5⟩ := root k' k g cells q1 q2 hg
        have := (h.blk k b0 r1).2.1 (by rw [r2]; exact hz)
        exact ⟨q4.trans (r3.trans this.1), q5.trans (r4.trans this.2)⟩
      · have hM := (hp.mem.blk k' _ q2).2
        have hkk : isMapKey k = isMapKey k' := (hbo3 _ q1).symm
        by_cases hnew : cells = [] ∧ m1.ext k' = 0 ∧ isMapKey k = false
        · rw [hnew.2.2]
          exact .inl ⟨by simp [hnew.1, renL], q5.trans hnew.2.1⟩
        · refine BlkM.ren hanew rfl hkk q4 q5 (fun hnm n1 n2 => ?_) (fun o o1 o2 => ?_) hM
          · rcases (hmem _ q1).2 with ⟨y1, y, y2, y3, y4, y5⟩ | ⟨y1, y2⟩
            · simp only at y1 y3 y4 y5
              have hg : okS st.tag st.next g := by
                obtain ⟨b0, z1, z2⟩ := packed_has hl y2
                have := (h.blk _ b0 z1).1
                rw [z2, ← y5] at this
                exact this
              obtain ⟨b0, r1, r2, r3, r4, r5⟩ := root k' k g cells q1 q2 hg
              have hb0 := (h.blk k b0 r1).2.2
              rw [if_neg (by simpa using hnm)] at hb0
              rcases hb0 with ⟨e1, e2⟩ | ⟨_, _, _, _, _, _, e4, _⟩
              · exfalso
                refine hnew ⟨?_, r4.trans e2, hnm⟩
                rw [e1] at r5
                exact List.length_eq_zero_iff.1 r5.symm
              · rw [r3]
                exact e4 n1 n2
            · simp only at y2; omega
          · rcases region k' _ q2 o o1 o2 with y | y
            · exact .inl (Nat.le_trans hBw y)
            · exact mineOwn _ _ (own0 _ _ y)
    · refine (h.blk k b q1).keep hlater rfl q3 q4 (Nat.le_refl _) (fun cs e fr hc => ?_) fun es n hm g1 g2 => ?_
      · obtain ⟨cs', k1, k2, k3⟩ := hp.pres.cells _ cs e fr hc
        exact ⟨cs', k1, k2, fun o o1 o2 => k3 o (apartOld k b q1 q2 o o1 o2)⟩
      · simp only at g1 g2
        exact hp.pres.other _ _ hm (by intros; simp) (apartOld k b q1 q2 0 (by omega) (by omega))
  · rcases split i bi hi with ⟨k', g, cells, q1, q2, q3, q4, q5⟩ | ⟨q1, q2, q3, q4⟩ <;>
    rcases split j bj hj with ⟨j', g', cells', p1, p2, p3, p4, p5⟩ | ⟨p1, p2, p3, p4⟩
    · rw [q4, q5, p4, p5]
      refine hp.mem.apart k' j' _ _ ?_ q2 p2
      rintro rfl
      have := Pk.key hb1 q1 p1 rfl
      cases this
      exact hij rfl
    · rw [q4, q5, p3, p4]
      intro e o ho
      rcases region k' _ q2 o ho.1 ho.2.1 with y | y
      · have := (h.blk j bj p1).lt
        simp only at this
        rcases this with z | z
        · omega
        · rw [e] at y; omega
      · rw [e] at y
        exact apartOld j bj p1 p2 o ho.2.2.1 ho.2.2.2 y
    · rw [p4, p5, q3, q4]
      intro e o ho
      rcases region j' _ p2 o ho.2.2.1 ho.2.2.2 with y | y
      · have := (h.blk i bi q1).lt
        simp only at this
        rcases this with z | z
        · omega
        · rw [← e] at y; omega
      · rw [← e] at y
        exact apartOld i bi q1 q2 o ho.1 ho.2.1 y
    · rw [q3, q4, p3, p4]
      exact h.apart i j bi bj hij q1 p1
end
end Go.Sim
