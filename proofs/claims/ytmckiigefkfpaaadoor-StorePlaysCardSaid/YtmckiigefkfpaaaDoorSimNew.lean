/- The interpreter's operations are the model's: part 2: new blocks, append. -/
import Derived.Test.YtmckiigefkfpaaaDoorSimOps
set_option linter.unusedVariables false
set_option linter.unusedSimpArgs false
namespace Go.Sim
open Go

section
variable {P : Program} {c : Cx} {nt : Nat} {st : St} {a : Act} {w : World} {m : Mp}

/-- A world in which but the count of draws has turned. -/
theorem RelM.drew (h : RelM c nt st a w m) : RelM c nt st a w.drew m ∧ Later (At st w m) (At st w.drew m) := by
  have hl : Later (At st w m) (At st w.drew m) := ⟨Pres.drew _ _, fun _ _ _ x => x, fun k b hb _ => ⟨b, hb, rfl, rfl, rfl, rfl⟩, fun _ x => x, fun _ _ _ x => .inr x, rfl⟩
  refine ⟨⟨h.defers, h.size, h.next1, h.mB, fun k v hk => (h.env k v hk).move hl (.inl (Nat.le_refl _)), h.pres.trans (Pres.drew c.A w) (fun _ _ _ x => x) (fun _ _ _ x => x), fun k b hb => ?_, h.apart⟩, hl⟩
  exact (h.blk k b hb).keep hl rfl rfl rfl (Nat.le_refl _) (fun cs e fr hc => ⟨cs, hc, rfl, fun _ _ _ => rfl⟩) fun es n hc _ _ => hc

theorem newBlk_turned (st : St) (d : Nat) (cells : List AV) : (newBlk st d cells).2 = turned st d ⟨(st.tag, st.next), cells⟩ (st.next + 1) := rfl

theorem alloc_heap (w : World) (ob : Obj) : (w.alloc ob).heap[w.heap.size]? = some ob := by
  show (w.heap.push ob)[w.heap.size]? = _
  simp

/-- A new block. -/
theorem RelM.new (h : RelM c nt st a w m) (d : Nat) {cells : List AV} {vs : List Value} (hv : VRs (At st w m) true cells vs) (cs : Array Value) (n : Nat) (e : TypeId)
    (hcs : ∀ (j : Nat) (v : Value), vs[j]? = some v → cs[j]? = some v) (hn : n ≤ cs.size) (hle : vs.length ≤ n) (hk : isMapKey d = false := by first | assumption | (apply blkOf_key; assumption)) :
    RelM c nt (newBlk st d cells).2 a (w.alloc (.cells cs e)) (m.set d (w.heap.size, 0) n) ∧
    Later (At st w m) (At (newBlk st d cells).2 (w.alloc (.cells cs e)) (m.set d (w.heap.size, 0) n)) := by
  have hT : Turn st w m d ⟨(st.tag, st.next), cells⟩ (st.next + 1) (w.alloc (.cells cs e)) (w.heap.size, 0) n :=
    ⟨Pres.alloc _ _ _, Nat.le_succ _, .inr (.inl (Nat.le_refl _)), .inr okS_fresh⟩
  have hl := hT.later
  refine ⟨?_, hl⟩
  rw [newBlk_turned]
  refine h.turn hT ⟨okS_new _ _, fun e => ?_, cellsI hk (.inr ⟨cs, e, (0, 0), ?_, ?_, ?_, ?_, ?_, vs, hv.later hl, ?_⟩)⟩
  · have := h.next1
    simp only [turned, Prod.mk.injEq] at e
    omega
  · simp only [Mp.set, if_true]; exact alloc_heap _ _
  · simp only [Mp.set, if_true]; omega
  · simp only [Mp.set, if_true]; have := hv.length; omega
  · simp only [Mp.set, if_true]; exact fun _ _ => h.pres.size
  · simp only [Mp.set, if_true]
    exact fun o _ _ => ⟨by omega, .inl h.pres.size⟩
  · simp only [Mp.set, if_true, Nat.zero_add]; exact hcs

/-- The address of a new block. -/
theorem VR.new_ref (h1 : 1 ≤ st.next) (d : Nat) (cells : List AV) (w' : World) (b n : Nat) :
    VR (At (newBlk st d cells).2 w' (m.set d (b, 0) n)) (.ref d (newBlk st d cells).1 0) (.pointer (some ⟨b, 0, none⟩)) := by
  refine .ref (okS_new _ _) fun blk hb hs => ?_
  simp [Mp.set]

theorem VR.new_msl (h1 : 1 ≤ st.next) (d : Nat) {cells : List AV} (w' : World) (b sz len cap : Nat) (hlen : cells.length = len * sz) (hc : len ≤ cap) :
    VR (At (newBlk st d cells).2 w' (m.set d (b, 0) (cap * sz))) (.msl d (newBlk st d cells).1 sz 0 len) (.slice (some ⟨b, 0, none⟩) len cap) := by
  refine .msl (okS_new _ _) ⟨rfl, hc⟩ fun blk hb hs => ?_
  simp only [At, newBlk, aget_aput, if_true, Option.some.injEq] at hb
  subst hb
  exact ⟨by simp [hlen], .inl ⟨cap, by simp [Mp.set], hc, by simp [Mp.set]⟩⟩

theorem ok_alloc (h : RelM c nt st a w m) {t : Nat} {i : TI} (hi : TIOK P t i) (d : Nat) (hk : isMapKey d = false := by first | assumption | (apply blkOf_key; assumption)) :
    ∃ x w' m', (Instr.alloc t true (.tuple #[])).run P w = .ok x w' ∧ RelM c nt (newBlk st d i.zero).2 a w' m' ∧ VR (At (newBlk st d i.zero).2 w' m') (.ref d (newBlk st d i.zero).1 0) x := by
  obtain ⟨z, hz, hr⟩ := hi.run_zero
  have hv := ofCells_ok (At st w m) _ _ hz
  have hn := h.new d hv z.cells z.cells.size t (fun j v hj => by simpa using hj) (Nat.le_refl _) (by simp)
  refine ⟨.pointer (some ⟨w.heap.size, 0, none⟩), _, _, ?_, hn.1, VR.new_ref h.next1 d _ _ _ _⟩
  simp [Instr.alloc, hr, newVar, newRow]

theorem ok_box (h : RelM c nt st a w m) (t d : Nat) {v : AV} {x : Value} (hx : VR (At st w m) v x) (hs : v.solid = true) (hk : isMapKey d = false := by first | assumption | (apply blkOf_key; assumption)) :
    ∃ y w' m', (Instr.box t x).run P w = .ok y w' ∧ RelM c nt (newBlk st d v.cells).2 a w' m' ∧ VR (At (newBlk st d v.cells).2 w' m') (.ref d (newBlk st d v.cells).1 0) y := by
  have hv := hx.cells hs
  have hn := h.new d hv x.cells x.cells.size t (fun j u hj => by simpa using hj) (Nat.le_refl _) (by simp)
  refine ⟨.pointer (some ⟨w.heap.size, 0, none⟩), _, _, ?_, hn.1, VR.new_ref h.next1 d _ _ _ _⟩
  simp [Instr.box, newVar, newRow]

/-! ## a slice's cells -/

theorem VR.isl_inv {s : S} {sz n : Nat} {cells : List AV} {x : Value} (h : VR s (.isl sz n cells) x ∨ VR s (.fsl sz n cells) x) :
    (∃ ad cap vs, x = .slice (some ad) n cap ∧ ad.spot = none ∧ cells.length = n * sz ∧ Reads s ad vs ∧ VRs s true cells vs) ∨ (∃ ad cap, x = .slice ad 0 cap ∧ n = 0 ∧ cells = []) := by
  rcases h with h | h
  · cases h with
    | isl ha hcap hlen hr hv => exact .inl ⟨_, _, _, rfl, ha, hlen, hr, hv⟩
    | islnil => exact .inr ⟨_, _, rfl, rfl, rfl⟩
  · cases h.fsl_isl with
    | isl ha hcap hlen hr hv => exact .inl ⟨_, _, _, rfl, ha, hlen, hr, hv⟩
    | islnil => exact .inr ⟨_, _, rfl, rfl, rfl⟩

theorem VR.msl_inv {s : S} {k : Nat} {σ : Nat × Nat} {sz o n : Nat} {x : Value} (h : VR s (.msl k σ sz o n) x) {blk : Blk} (hb : aget k s.heap = some blk) (hs : blk.stamp = σ) : SlOK s k blk sz o n x := by
  cases h with | msl hok hv hl => exact hl blk hb hs

/-- What a slice holds: its value is a slice of so many; its cells stand where it says. -/
theorem ok_slCells (h : RelM c nt st a w m) {sz n : Nat} {cells : List AV} {v : AV} {x : Value} (hx : VR (At st w m) v x) (hs : slCells st sz v = some (n, cells)) :
    ∃ vs, VRs (At st w m) true cells vs ∧ cells.length = n * sz ∧
      ((∃ ad cap, x = .slice (some ad) n cap ∧ ad.spot = none ∧ ∀ j u, vs[j]? = some u → w.cell? (ad.add j) = some u) ∨ (∃ ad cap, x = .slice ad n cap ∧ n = 0)) := by
  unfold slCells at hs
  split at hs
  · rename_i k σ z o len
    split at hs
    · rename_i hz
      subst hz
      cases hb : blkOf st k σ with
      | none => simp [hb] at hs
      | some cs =>
        simp only [hb, Option.bind_some] at hs
        obtain ⟨blk, h1, h2, rfl⟩ := blkOf_some hb
        split at hs
        · rename_i hle
          simp only [Option.some.injEq, Prod.mk.injEq] at hs
          obtain ⟨rfl, rfl⟩ := hs
          obtain ⟨vs, g1, g2⟩ := h.reads h1
          have gl := g1.length
          refine ⟨(vs.drop o).take (len * z), (g1.drop o).take _, by simp; omega, ?_⟩
          rcases (hx.msl_inv h1 h2).2 with ⟨cap, rfl, _, _⟩ | ⟨rfl, ad, rfl⟩
          · refine .inl ⟨_, cap, rfl, rfl, fun j u hj => ?_⟩
            rw [addr_add, Nat.add_assoc]
            refine g2 _ _ ?_
            rw [List.getElem?_take] at hj
            split at hj
            · simpa [List.getElem?_drop] using hj
            · cases hj
          · exact .inr ⟨_, _, rfl, rfl⟩
        · cases hs
    · cases hs
  · rename_i z len cs
    split at hs
    · rename_i hz
      obtain ⟨rfl, hlen⟩ := hz
      simp only [Option.some.injEq, Prod.mk.injEq] at hs
      obtain ⟨rfl, rfl⟩ := hs
      rcases VR.isl_inv (.inl hx) with ⟨ad, cap, vs, rfl, ha, _, hr, hv⟩ | ⟨ad, cap, rfl, rfl, rfl⟩
      · exact ⟨vs, hv, hlen, .inl ⟨ad, cap, rfl, ha, fun j u hj => by rw [addr_add' ha]; exact (hr j u hj).1⟩⟩
      · exact ⟨[], .nil _, hlen, .inr ⟨_, _, rfl, rfl⟩⟩
    · cases hs
  · rename_i z len cs
    split at hs
    · rename_i hz
      obtain ⟨rfl, hlen⟩ := hz
      simp only [Option.some.injEq, Prod.mk.injEq] at hs
      obtain ⟨rfl, rfl⟩ := hs
      rcases VR.isl_inv (.inr hx) with ⟨ad, cap, vs, rfl, ha, _, hr, hv⟩ | ⟨ad, cap, rfl, rfl, rfl⟩
      · exact ⟨vs, hv, hlen, .inl ⟨ad, cap, rfl, ha, fun j u hj => by rw [addr_add' ha]; exact (hr j u hj).1⟩⟩
      · exact ⟨[], .nil _, hlen, .inr ⟨_, _, rfl, rfl⟩⟩
    · cases hs
  · simp only [Option.some.injEq, Prod.mk.injEq] at hs
    obtain ⟨rfl, rfl⟩ := hs
    cases hx
    exact ⟨[], .nil _, by simp, .inr ⟨_, _, rfl, rfl⟩⟩
  · cases hs

theorem run_first {sz n : Nat} {ad : Addr} {cap len : Nat} {vs : List Value} (hl : vs.length = n * sz) (hc : ∀ (j : Nat) (u : Value), vs[j]? = some u → w.cell? (ad.add j) = some u) :
    (Builtin.firstCells sz n (.slice (some ad) len cap)).run P w = .ok vs.toArray w := run_firstCells_some (P := P) w sz n ad len cap vs hl hc

/-! ## append -/

theorem run_append_zero (t ty e : Nat) (i : TypeInfo) (ht : P.underlying t = some (.slice e)) (hi : P.info? e = some i) (ad : Option Addr) (k cap : Nat) (hk : k ≤ cap) (bd : Option Addr) (cap' : Nat) :
    (Builtin.append_ #[t, t] ty #[.slice ad k cap, .slice bd 0 cap']).run P w = .ok (.slice ad k cap) w := by
  cases bd <;> cases ad <;> simp [Builtin.append_, run_underlying ht, sizeOf, typeInfo, hi, Builtin.lenOf, hk, Builtin.firstCells, loadCells, loadCellsFrom, storeCells]

theorem run_append_in (t ty e : Nat) (i : TypeInfo) (ht : P.underlying t = some (.slice e)) (hi : P.info? e = some i) (b o k cap : Nat) (bd : Addr) (n cap' : Nat) (news : List Value)
    (hl : news.length = n * i.size) (hnews : ∀ (j : Nat) (u : Value), news[j]? = some u → w.cell? (bd.add j) = some u) (hroom : k + n ≤ cap) {w' : World}
    (hst : (storeCells ⟨b, o + k * i.size, none⟩ news).run P w = .ok () w') :
    (Builtin.append_ #[t, t] ty #[.slice (some ⟨b, o, none⟩) k cap, .slice (some bd) n cap']).run P w = .ok (.slice (some ⟨b, o, none⟩) (k + n) cap) w' := by
  have hf := run_firstCells_some (P := P) w i.size n bd n cap' news hl hnews
  simp [Builtin.append_, run_underlying ht, sizeOf, typeInfo, hi, Builtin.lenOf, hroom, hf, addr_add, hst]

theorem sliceBy {t : Nat} {i : TI} (h : TIOK P t i) {e : Nat} (hd : i.desc = .slice e) : P.underlying t = some (.slice e) := by
  obtain ⟨d, h1, h2, _⟩ := h.run_und
  rw [hd] at h1
  cases d <;> simp_all [TDOK]

theorem mul_le_of {k cap sz x : Nat} (h : k ≤ cap) (h2 : cap * sz ≤ x) : k * sz ≤ x := Nat.le_trans (Nat.mul_le_mul_right sz h) h2

end

section
variable {P : Program} {c : Cx} {nt : Nat} {st : St} {a : Act} {w : World} {m : Mp}

/-- A new row behind an append: the old cells, the new ones, room. -/
theorem append_new (h : RelM c nt st a w m) (d : Nat) {olds news : List AV} {vo vn : List Value} (ho : VRs (At st w m) true olds vo) (hn : VRs (At st w m) true news vn)
    (sz k n cap e : Nat) (z : Value) (hzs : z.cells.size = sz) (hlo : olds.length = k * sz) (hln : news.length = n * sz) (hcap : k + n ≤ cap) (hk : isMapKey d = false := by first | assumption | (apply blkOf_key; assumption)) :
    RelM c nt (newBlk st d (olds ++ news)).2 a (w.drew.alloc (.cells (vo.toArray ++ vn.toArray ++ Builtin.zeroCells z.cells (cap - (k + n))) e)) (m.set d (w.heap.size, 0) (cap * sz)) ∧
    VR (At (newBlk st d (olds ++ news)).2 (w.drew.alloc (.cells (vo.toArray ++ vn.toArray ++ Builtin.zeroCells z.cells (cap - (k + n))) e)) (m.set d (w.heap.size, 0) (cap * sz)))
      (.msl d (newBlk st d (olds ++ news)).1 sz 0 (k + n)) (.slice (some ⟨w.heap.size, 0, none⟩) (k + n) cap) := by
  have h' := h.drew
  have l1 := ho.length
  have l2 := hn.length
  have hle : (k + n) * sz ≤ cap * sz := Nat.mul_le_mul_right sz hcap
  have hsub : (cap - (k + n)) * sz = cap * sz - (k + n) * sz := Nat.sub_mul _ _ _
  have hadd : (k + n) * sz = k * sz + n * sz := Nat.add_mul _ _ _
  have := h'.1.new d ((ho.later h'.2).append (hn.later h'.2)) (vo.toArray ++ vn.toArray ++ Builtin.zeroCells z.cells (cap - (k + n))) (cap * sz) e
    (fun j v hj => by
      have hlt : j < (vo ++ vn).length := (List.getElem?_eq_some_iff.1 hj).1
      rw [Array.getElem?_append_left (by simpa using hlt)]
      simpa using hj)
    (by simp only [Array.size_append, List.size_toArray, size_zeroCells, hzs]; omega) (by simp only [List.length_append]; omega)
  exact ⟨this.1, VR.new_msl h.next1 d _ _ sz (k + n) cap (by simp only [List.length_append]; omega) hcap⟩

theorem ok_append (h : RelM c nt st a w m) {t e : Nat} {it ie : TI} (ht : TIOK P t it) (hd : it.desc = .slice e) (he : TIOK P e ie) (hz0 : ie.zero.length = ie.size) (ty d : Nat) {s x v : AV} {vs vx : Value}
    (hs : VR (At st w m) s vs) (hx : VR (At st w m) x vx) {st' : St} (ha : aAppend ie.size ie.bytes st d s x = some (v, st')) (hk : isMapKey d = false := by first | assumption | (apply blkOf_key; assumption)) :
    ∃ y w' m', (Builtin.append_ #[t, t] ty #[vs, vx]).run P w = .ok y w' ∧ RelM c nt st' a w' m' ∧ VR (At st' w' m') v y := by
  have hu := sliceBy ht hd
  obtain ⟨info, de, z, hinfo, _, _, hsz, hby, hzero, hzc, hzd⟩ := he
  have hzs : z.cells.size = ie.size := by
    have := (ofCells_ok (At st w m) _ _ hzc).length
    simp at this; omega
  have hzs' : z.cells.size = info.size := by omega
  unfold aAppend at ha
  cases hc : slCells st ie.size x with
  | none => simp [hc] at ha
  | some p =>
    obtain ⟨n, new⟩ := p
    simp only [hc, Option.bind_eq_bind, Option.bind_some] at ha
    obtain ⟨vn, hvn, hlen, hx'⟩ := ok_slCells h hx hc
    have hlv := hvn.length
    have hvl : vn.length = n * info.size := by rw [← hlv, hlen, hsz]
    split at ha
    · -- onto nil
      split at ha
      · rename_i hb
        obtain ⟨hb0, hsz0, hb1⟩ := hb
        simp only [Option.some.injEq, Prod.mk.injEq] at ha
        obtain ⟨rfl, rfl⟩ := ha
        obtain ⟨pa, rfl⟩ : ∃ pa, vs = .slice pa 0 0 := by cases hs; exact ⟨_, rfl⟩
        by_cases hn0 : n = 0
        · subst hn0
          have hnew : new = [] := List.eq_nil_of_length_eq_zero (by omega)
          subst hnew
          have hrun : ∃ bd cap', vx = .slice bd 0 cap' := by rcases hx' with ⟨ad, cap, rfl, _⟩ | ⟨ad, cap, rfl, _⟩ <;> exact ⟨_, _, rfl⟩
          obtain ⟨bd, cap', rfl⟩ := hrun
          refine ⟨_, w, m.set d (0, 0) 0, run_append_zero (P := P) t ty e info hu hinfo pa 0 0 (Nat.le_refl _) bd cap', ?_, ?_⟩
          · rw [newBlk_turned]
            have hT : Turn st w m d ⟨(st.tag, st.next), []⟩ (st.next + 1) w (0, 0) 0 := ⟨Pres.refl _ _, Nat.le_succ _, .inl rfl, .inr okS_fresh⟩
            refine h.turn hT ⟨okS_new _ _, fun e => ?_, cellsI (by first | assumption | (apply blkOf_key; assumption)) (.inl ⟨rfl, by simp [Mp.set]⟩)⟩
            have := h.next1
            simp only [turned, Prod.mk.injEq] at e
            omega
          · refine .msl (okS_new _ _) ⟨rfl, Nat.le_refl _⟩ fun blk hb hs => ?_
            simp only [At, newBlk, aget_aput, if_true, Option.some.injEq] at hb
            subst hb
            exact ⟨by simp, .inr ⟨rfl, pa, rfl⟩⟩
        · cases pa with
          | some bad =>
            rcases hx' with ⟨ad, cap', rfl, hspot, hcells⟩ | ⟨_, _, _, h0⟩
            · have hkn : 0 + n ≤ 9223372036854775807 := by
                have : n * 1 ≤ n * ie.bytes := Nat.mul_le_mul_left n hb0
                omega
              have hrun := run_append_grow (P := P) w t ty e info z hu hinfo hzero bad 0 0 [] (by simp) (by simp) ad n cap' vn hvl hcells (by omega) (by omega)
                (by rw [hby]; exact growslice_fits (by omega) (by rw [Nat.zero_add]; exact hb1))
              have hnew := append_new h d (olds := []) (vo := []) (.nil _) hvn ie.size 0 n (grownCap w (0 + n) 0 e) e z hzs (by simp) hlen (grownCap_ge w (0 + n) 0 e)
              simp only [List.nil_append, Nat.zero_add] at hnew hrun
              exact ⟨_, _, _, hrun, hnew.1, hnew.2⟩
            · exact (hn0 h0).elim
          | none =>
          rcases hx' with ⟨ad, cap, rfl, hspot, hcells⟩ | ⟨_, _, _, h0⟩
          · have hrun := run_append_nil (P := P) w t ty e info z hu hinfo hzero ad n cap vn hvl hcells (by omega) (by
                have : n * 1 ≤ n * ie.bytes := Nat.mul_le_mul_left n hb0
                omega) (by rw [hby]; omega)
            have hnew := append_new h d (olds := []) (vo := []) (.nil _) hvn ie.size 0 n (grownCap w n 0 e) e z hzs (by simp) hlen (by simpa using grownCap_ge w n 0 e)
            simp only [List.nil_append, Nat.zero_add, Array.empty_append] at hnew
            exact ⟨_, _, _, hrun, hnew.1, hnew.2⟩
          · exact (hn0 h0).elim
      · cases ha
    · -- onto a block of one's own
      rename_i site σ zz o k
      cases hb : blkOf st site σ with
      | none => simp [hb] at ha
      | some cells =>
        simp only [hb, Option.bind_some] at ha
        obtain ⟨blk, h1, h2, rfl⟩ := blkOf_some hb
        split at ha
        · rename_i hcnd
          obtain ⟨hz, hb0, hsz0, hfull, hbytes⟩ := hcnd
          subst hz
          simp only [Option.some.injEq, Prod.mk.injEq] at ha
          obtain ⟨rfl, rfl⟩ := ha
          have hsl := hs.msl_inv h1 h2
          obtain ⟨vo, g1, g2⟩ := h.reads h1
          have gl := g1.length
          have hold := g1.drop o
          have hdl : (blk.cells.drop o).length = k * ie.size := by simp; omega
          have hkn : k + n ≤ 9223372036854775807 := by
            have : (k + n) * 1 ≤ (k + n) * ie.bytes := Nat.mul_le_mul_left _ hb0
            omega
          -- a new row for it
          have fresh : ∀ (bad : Addr) (cap : Nat), vs = .slice (some bad) k cap → (∀ (j : Nat) (u : Value), (vo.drop o)[j]? = some u → w.cell? (bad.add j) = some u) → cap < k + n → 0 < n →
              ∃ y w' m', (Builtin.append_ #[t, t] ty #[vs, vx]).run P w = .ok y w' ∧ RelM c nt (newBlk st site (blk.cells.drop o ++ new)).2 a w' m' ∧
                VR (At (newBlk st site (blk.cells.drop o ++ new)).2 w' m') (.msl site (newBlk st site (blk.cells.drop o ++ new)).1 ie.size 0 (k + n)) y := by
            intro bad cap hvs hcell hgt hn0
            subst hvs
            rcases hx' with ⟨ad, cap', rfl, hspot, hcells⟩ | ⟨_, _, _, h0⟩
            · have hrun := run_append_grow (P := P) w t ty e info z hu hinfo hzero bad k cap (vo.drop o) (by rw [← hold.length, hdl, hsz]) hcell ad n cap' vn hvl hcells hgt (by omega)
                (by rw [hby]; exact growslice_fits hgt hbytes)
              have hnew := append_new h site hold hvn ie.size k n (grownCap w (k + n) cap e) e z hzs hdl hlen (grownCap_ge w (k + n) cap e)
              exact ⟨_, _, _, hrun, hnew.1, hnew.2⟩
            · omega
          -- nothing there, nothing to come
          have still : ∀ (ad : Option Addr), vs = .slice ad 0 0 → k = 0 → n = 0 →
              ∃ y w' m', (Builtin.append_ #[t, t] ty #[vs, vx]).run P w = .ok y w' ∧ RelM c nt (newBlk st site (blk.cells.drop o ++ new)).2 a w' m' ∧
                VR (At (newBlk st site (blk.cells.drop o ++ new)).2 w' m') (.msl site (newBlk st site (blk.cells.drop o ++ new)).1 ie.size 0 (k + n)) y := by
            intro ad hvs hk0 hn0
            subst hvs hk0 hn0
            have e1 : blk.cells.drop o = [] := List.eq_nil_of_length_eq_zero (by omega)
            have e2 : new = [] := List.eq_nil_of_length_eq_zero (by omega)
            rw [e1, e2]
            have hrun : ∃ bd cap', vx = .slice bd 0 cap' := by rcases hx' with ⟨ad, cap, rfl, _⟩ | ⟨ad, cap, rfl, _⟩ <;> exact ⟨_, _, rfl⟩
            obtain ⟨bd, cap', rfl⟩ := hrun
            refine ⟨_, w, m.set site (0, 0) 0, run_append_zero (P := P) t ty e info hu hinfo ad 0 0 (Nat.le_refl _) bd cap', ?_, ?_⟩
            · rw [newBlk_turned]
              have hT : Turn st w m site ⟨(st.tag, st.next), [] ++ []⟩ (st.next + 1) w (0, 0) 0 := ⟨Pres.refl _ _, Nat.le_succ _, .inl rfl, .inr okS_fresh⟩
              refine h.turn hT ⟨okS_new _ _, fun e => ?_, cellsI (by first | assumption | (apply blkOf_key; assumption)) (.inl ⟨rfl, by simp [Mp.set]⟩)⟩
              have := h.next1
              simp only [turned, Prod.mk.injEq] at e
              omega
            · refine .msl (okS_new _ _) ⟨rfl, Nat.le_refl _⟩ fun blk hb hs => ?_
              simp only [At, newBlk, aget_aput, if_true, Option.some.injEq] at hb
              subst hb
              exact ⟨by simp, .inr ⟨rfl, ad, rfl⟩⟩
          rcases hsl.2 with ⟨cap, hvs, hkc, hext⟩ | ⟨hk0, ad, hvs⟩
          · replace hvs : vs = .slice (some ⟨(m.base site).1, (m.base site).2 + o, none⟩) k cap := hvs
            replace hext : o + cap * ie.size ≤ m.ext site := hext
            by_cases hroom : k + n ≤ cap
            · rcases h.blkAt h1 with ⟨q1, q2⟩ | ⟨cs, ty', fr, r1, r2, r3, r4, r5, vr, r6, r7⟩
              · -- no memory at all
                have hc0 : cap * ie.size = 0 := by omega
                have hcap : cap = 0 := by
                  rcases Nat.mul_eq_zero.1 hc0 with x | x
                  · exact x
                  · omega
                subst hcap
                exact still _ (by rw [hvs, show k = 0 from by omega]) (by omega) (by omega)
              · have rl := r6.length
                have lk : k * ie.size + n * ie.size ≤ cap * ie.size := by rw [← Nat.add_mul]; exact Nat.mul_le_mul_right _ hroom
                have hst := run_store_row (P := P) (m.base site).1 ((m.base site).2 + o + k * ie.size) ty' fr vn 0 cs w r1 (by omega) (fun j k1 k2 => (r5 j (by omega) (by omega)).1) hvn.one
                simp only [Nat.add_zero] at hst
                have hrun : (Builtin.append_ #[t, t] ty #[vs, vx]).run P w = .ok (.slice (some ⟨(m.base site).1, (m.base site).2 + o, none⟩) (k + n) cap)
                    (w.putRow (m.base site).1 (splice cs ((m.base site).2 + o + k * ie.size) vn) ty' fr) := by
                  rw [hvs]
                  by_cases hn0 : n = 0
                  · subst hn0
                    have e2 : vn = [] := List.eq_nil_of_length_eq_zero (by omega)
                    have hx2 : ∃ bd cap', vx = .slice bd 0 cap' := by rcases hx' with ⟨ad, cap, rfl, _⟩ | ⟨ad, cap, rfl, _⟩ <;> exact ⟨_, _, rfl⟩
                    obtain ⟨bd, cap', rfl⟩ := hx2
                    rw [run_append_zero (P := P) t ty e info hu hinfo _ k cap hkc bd cap', e2]
                    have : splice cs ((m.base site).2 + o + k * ie.size) [] = cs := by apply Array.ext'; simp [splice]
                    rw [this, putRow_self _ _ _ _ _ r1]
                    rfl
                  · rcases hx' with ⟨ad, cap', rfl, hspot, hcells⟩ | ⟨_, _, _, h0⟩
                    · exact run_append_in (P := P) t ty e info hu hinfo _ _ k cap ad n cap' vn hvl hcells hroom (by rw [hsz]; exact hst)
                    · omega
                have hT : Turn st w m site ⟨(st.tag, st.next), blk.cells.drop o ++ new⟩ (st.next + 1) (w.putRow (m.base site).1 (splice cs ((m.base site).2 + o + k * ie.size) vn) ty' fr)
                    ((m.base site).1, (m.base site).2 + o) (cap * ie.size) := by
                  refine ⟨?_, Nat.le_succ _, .inr (.inr ⟨⟨blk, h1⟩, rfl, by simp, by simp only []; omega⟩), .inr okS_fresh⟩
                  refine Pres.putRow r1 (size_splice _ _ _ (by omega)) (fun j hj => ?_)
                  rw [splice_get _ _ _ (by omega), if_neg]
                  intro hh
                  exact hj ⟨⟨blk, h1⟩, rfl, by omega, by omega⟩
                have hl := hT.later
                have hlt : (m.base site).1 < w.heap.size := (Array.getElem?_eq_some_iff.1 r1).1
                refine ⟨_, _, m.set site ((m.base site).1, (m.base site).2 + o) (cap * ie.size), hrun, ?_, ?_⟩
                · rw [newBlk_turned]
                  refine h.turn hT ⟨okS_new _ _, fun e => ?_, cellsI (by first | assumption | (apply blkOf_key; assumption)) (.inr ⟨splice cs ((m.base site).2 + o + k * ie.size) vn, ty', fr, ?_, ?_, ?_, ?_, ?_, vr.drop o ++ vn, ?_, ?_⟩)⟩
                  · have := h.next1
                    simp only [turned, Prod.mk.injEq] at e
                    omega
                  · simp only [Mp.set, if_true]; rw [heap_putRow]; simp [hlt]
                  · simp only [Mp.set, if_true]; rw [size_splice _ _ _ (by omega)]; omega
                  · simp only [Mp.set, if_true, List.length_append]; omega
                  · simp only [Mp.set, if_true]; exact r4
                  · simp only [Mp.set, if_true]; exact fun j j1 j2 => r5 j (by omega) (by omega)
                  · exact ((r6.drop o).later hl).append (hvn.later hl)
                  · intro j v hj
                    simp only [Mp.set, if_true]
                    rw [splice_get _ _ _ (by omega)]
                    have hdr : (vr.drop o).length = k * ie.size := by simp; omega
                    by_cases hjk : j < k * ie.size
                    · rw [if_neg (by omega)]
                      rw [List.getElem?_append_left (by omega), List.getElem?_drop] at hj
                      rw [Nat.add_assoc]
                      exact r7 _ v hj
                    · rw [List.getElem?_append_right (by omega), hdr] at hj
                      have := (List.getElem?_eq_some_iff.1 hj).1
                      rw [if_pos ⟨by omega, by omega⟩, ← hj]
                      congr 1; omega
                · refine .msl (okS_new _ _) ⟨rfl, hroom⟩ fun blk' hb' hs' => ?_
                  simp only [At, newBlk, aget_aput, if_true, Option.some.injEq] at hb'
                  subst hb'
                  refine ⟨by simp only [List.length_append, Nat.zero_add, Nat.add_mul]; omega, .inl ⟨cap, by simp [Mp.set], hroom, by simp [Mp.set]⟩⟩
            · refine fresh _ cap hvs (fun j u hj => ?_) (by omega) (by omega)
              rw [addr_add, Nat.add_assoc]
              rw [List.getElem?_drop] at hj
              exact g2 _ u hj
          · have e1 : vo.drop o = [] := List.eq_nil_of_length_eq_zero (by rw [← hold.length, hdl, hk0]; simp)
            by_cases hn0 : n = 0
            · exact still ad (by rw [hvs]) hk0 hn0
            · cases ad with
              | some bad => exact fresh bad 0 (by rw [hvs, hk0]) (fun j u hj => by rw [e1] at hj; simp at hj) (by omega) (by omega)
              | none =>
                rcases hx' with ⟨ad', cap', rfl, hspot, hcells⟩ | ⟨_, _, _, h0⟩
                · subst hvs hk0
                  have hrun := run_append_nil (P := P) w t ty e info z hu hinfo hzero ad' n cap' vn hvl hcells (by omega) (by omega) (by rw [hby]; simp only [Nat.zero_add] at hbytes; omega)
                  have e3 : blk.cells.drop o = [] := List.eq_nil_of_length_eq_zero (by omega)
                  have hnew := append_new h site (olds := []) (vo := []) (.nil _) hvn ie.size 0 n (grownCap w n 0 e) e z hzs (by simp) hlen (by simpa using grownCap_ge w n 0 e)
                  simp only [List.nil_append, Nat.zero_add, Array.empty_append] at hnew
                  rw [e3]
                  simp only [List.nil_append, Nat.zero_add]
                  exact ⟨_, _, _, hrun, hnew.1, hnew.2⟩
                · exact (hn0 h0).elim
        · cases ha
    · cases ha
end

end Go.Sim
