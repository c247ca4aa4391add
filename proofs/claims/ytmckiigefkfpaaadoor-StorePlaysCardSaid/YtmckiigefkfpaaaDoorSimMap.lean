/- The interpreter's maps are the model's. -/
import Derived.Test.YtmckiigefkfpaaaDoorSimOp
import Derived.MapKept
set_option linter.unusedVariables false
set_option linter.unusedSimpArgs false
namespace Go.Sim
open Go Go.MapKept

section
variable {P : Program} {c : Cx} {nt : Nat} {st : St} {a : Act} {w : World} {m : Mp}

theorem keyEq_ok {s : S} {t : TD} {d : TypeDesc} (hd : TDOK P t d) {k k' : AV} {x x' : Value} (hx : VR s k x) (hx' : VR s k' x') {b : Bool} (h : keyEq t k k' = some b) :
    Instr.sameNow d x x' = some b ∧ (b = true → Instr.sameBits 10000 x' x = true ∧ x' = x) := by
  unfold keyEq at h
  split at h
  · rename_i kk k1 a1 k2 a2
    cases d <;> simp only [TDOK] at hd
    cases hx; cases hx'
    split at h
    · rename_i e
      obtain ⟨e0, e⟩ := e
      subst e
      simp only [Option.some.injEq] at h
      subst h
      refine ⟨by simp [Instr.sameNow], fun e => ?_⟩
      have : a1 = a2 := by simpa using e
      subst this
      exact ⟨by simp [Instr.sameBits], rfl⟩
    · cases h
  · rename_i a1 a2
    cases d <;> simp only [TDOK] at hd
    cases hx; cases hx'
    simp only [Option.some.injEq] at h
    subst h
    refine ⟨by simp [Instr.sameNow], fun e => ?_⟩
    have : a1 = a2 := (bytes_beq a1 a2).1 e
    subst this
    exact ⟨by simpa [Instr.sameBits] using e, rfl⟩
  · rename_i a1 a2
    cases d <;> simp only [TDOK] at hd
    cases hx; cases hx'
    simp only [Option.some.injEq] at h
    subst h
    refine ⟨by simp [Instr.sameNow], fun e => ?_⟩
    have : a1 = a2 := by simpa using e
    subst this
    exact ⟨by simp [Instr.sameBits], rfl⟩
  · cases h

/-- Where a key is found. -/
theorem mfind_ok {s : S} {t : TD} {d : TypeDesc} (hd : TDOK P t d) {k : AV} {x : Value} (hx : VR s k x) : ∀ (es : List MapEntry) (ks vs : List AV) (i : Nat) (r : Option AV),
    VRs s false ks (es.map (·.key)) → VRs s false vs (es.map (·.val)) → mfind t k ks vs = some r →
    match r with
    | none => Instr.findNow d x es i = some none
    | some v => ∃ j e, Instr.findNow d x es i = some (some (i + j, e.val)) ∧ es[j]? = some e ∧ VR s v e.val
  | [], _, _, i, r, hk, hv, h => by
    cases hk; cases hv
    simp only [mfind, Option.some.injEq] at h
    subst h
    rfl
  | e :: es, _, _, i, r, .cons _ hk hks, .cons _ hv hvs, h => by
    simp only [mfind] at h
    split at h
    · rename_i he
      simp only [Option.some.injEq] at h
      subst h
      exact ⟨0, e, by simp [Instr.findNow, (keyEq_ok hd hx hk he).1], rfl, hv⟩
    · rename_i he
      have ih := mfind_ok hd hx es _ _ (i + 1) r hks hvs h
      cases r with
      | none => simp only [] at ih ⊢; simp [Instr.findNow, (keyEq_ok hd hx hk he).1, ih]
      | some v =>
        obtain ⟨j, e', g1, g2, g3⟩ := ih
        refine ⟨j + 1, e', ?_, by simpa using g2, g3⟩
        simp only [Instr.findNow, (keyEq_ok hd hx hk he).1, g1]
        congr 3; omega
    · cases h

/-- A value laid at a key. -/
theorem mput_ok {s : S} {t : TD} {d : TypeDesc} (hd : TDOK P t d) {k v : AV} {x y : Value} (hx : VR s k x) (hy : VR s v y) : ∀ (es : List MapEntry) (ks vs : List AV) (i n : Nat) (p : List AV × List AV),
    VRs s false ks (es.map (·.key)) → VRs s false vs (es.map (·.val)) → mput t k v ks vs = some p →
    (Instr.findNow d x es i = some none ∧ VRs s false p.1 ((es ++ [({ key := x, val := y, born := n } : MapEntry)]).map MapEntry.key) ∧ VRs s false p.2 ((es ++ [({ key := x, val := y, born := n } : MapEntry)]).map MapEntry.val)) ∨
    ∃ j e, Instr.findNow d x es i = some (some (i + j, e.val)) ∧ es[j]? = some e ∧ Instr.sameBits 10000 e.key x = true ∧
      VRs s false p.1 ((es.modify j fun (e : MapEntry) => { e with key := x, val := y }).map MapEntry.key) ∧ VRs s false p.2 ((es.modify j fun (e : MapEntry) => { e with key := x, val := y }).map MapEntry.val)
  | [], _, _, i, n, p, hk, hv, h => by
    cases hk; cases hv
    simp only [mput, Option.some.injEq] at h
    subst h
    exact .inl ⟨rfl, .cons (fun e => by cases e) hx (.nil _), .cons (fun e => by cases e) hy (.nil _)⟩
  | e :: es, _, _, i, n, p, .cons _ hk hks, .cons _ hv hvs, h => by
    simp only [mput] at h
    split at h
    · rename_i he
      simp only [Option.some.injEq] at h
      subst h
      obtain ⟨g1, g2⟩ := keyEq_ok hd hx hk he
      exact .inr ⟨0, e, by simp [Instr.findNow, g1], rfl, (g2 rfl).1, .cons (fun e => by cases e) hx hks, .cons (fun e => by cases e) hy hvs⟩
    · rename_i he
      simp only [Option.map_eq_some_iff] at h
      obtain ⟨q, h1, rfl⟩ := h
      have g1 := (keyEq_ok hd hx hk he).1
      rcases mput_ok hd hx hy es _ _ (i + 1) n q hks hvs h1 with ⟨k1, k2, k3⟩ | ⟨j, e', k1, k2, k3, k4, k5⟩
      · exact .inl ⟨by simp [Instr.findNow, g1, k1], .cons (fun e => by cases e) hk k2, .cons (fun e => by cases e) hv k3⟩
      · refine .inr ⟨j + 1, e', ?_, by simpa using k2, k3, ?_, ?_⟩
        · simp only [Instr.findNow, g1, k1]
          congr 3; omega
        · simpa [List.modify_succ_cons] using VRs.cons (fun e => by cases e) hk k4
        · simpa [List.modify_succ_cons] using VRs.cons (fun e => by cases e) hv k5
    · cases h

theorem mput_top {t : TD} {k v : AV} (hk : k.top = true) (hv : v.top = true) : ∀ (ks vs : List AV) (p : List AV × List AV), ks.all AV.top = true → vs.all AV.top = true → mput t k v ks vs = some p → p.1.all AV.top = true ∧ p.2.all AV.top = true
  | [], [], p, _, _, h => by
    simp only [mput, Option.some.injEq] at h
    subst h; simp [hk, hv]
  | k' :: ks, u :: vs, p, a, b, h => by
    simp only [List.all_cons, Bool.and_eq_true] at a b
    simp only [mput] at h
    split at h
    · simp only [Option.some.injEq] at h
      subst h; simp [hk, hv, a.2, b.2]
    · simp only [Option.map_eq_some_iff] at h
      obtain ⟨q, h1, rfl⟩ := h
      obtain ⟨g1, g2⟩ := mput_top hk hv ks vs q a.2 b.2 h1
      simp [a.1, b.1, g1, g2]
    · cases h
  | [], _ :: _, _, _, _, h => by cases h
  | _ :: _, [], _, _, _, h => by cases h

/-- A key struck. -/
theorem mdel_ok {s : S} {t : TD} {d : TypeDesc} (hd : TDOK P t d) {k : AV} {x : Value} (hx : VR s k x) : ∀ (es : List MapEntry) (ks vs : List AV) (i : Nat) (p : List AV × List AV),
    VRs s false ks (es.map (·.key)) → VRs s false vs (es.map (·.val)) → mdel t k ks vs = some p →
    (Instr.findNow d x es i = some none ∧ VRs s false p.1 (es.map (·.key)) ∧ VRs s false p.2 (es.map (·.val))) ∨
    ∃ j e, Instr.findNow d x es i = some (some (i + j, e.val)) ∧ es[j]? = some e ∧ VRs s false p.1 ((es.eraseIdx j).map (·.key)) ∧ VRs s false p.2 ((es.eraseIdx j).map (·.val))
  | [], _, _, i, p, hk, hv, h => by
    cases hk; cases hv
    simp only [mdel, Option.some.injEq] at h
    subst h
    exact .inl ⟨rfl, .nil _, .nil _⟩
  | e :: es, _, _, i, p, .cons _ hk hks, .cons _ hv hvs, h => by
    simp only [mdel] at h
    split at h
    · rename_i he
      simp only [Option.some.injEq] at h
      subst h
      exact .inr ⟨0, e, by simp [Instr.findNow, (keyEq_ok hd hx hk he).1], rfl, hks, hvs⟩
    · rename_i he
      simp only [Option.map_eq_some_iff] at h
      obtain ⟨q, h1, rfl⟩ := h
      have g1 := (keyEq_ok hd hx hk he).1
      rcases mdel_ok hd hx es _ _ (i + 1) q hks hvs h1 with ⟨k1, k2, k3⟩ | ⟨j, e', k1, k2, k3, k4⟩
      · exact .inl ⟨by simp [Instr.findNow, g1, k1], .cons (fun e => by cases e) hk k2, .cons (fun e => by cases e) hv k3⟩
      · refine .inr ⟨j + 1, e', ?_, by simpa using k2, ?_, ?_⟩
        · simp only [Instr.findNow, g1, k1]
          congr 3; omega
        · simpa using VRs.cons (fun e => by cases e) hk k3
        · simpa using VRs.cons (fun e => by cases e) hv k4
    · cases h

theorem mdel_top {t : TD} {k : AV} : ∀ (ks vs : List AV) (p : List AV × List AV), ks.all AV.top = true → vs.all AV.top = true → mdel t k ks vs = some p → p.1.all AV.top = true ∧ p.2.all AV.top = true
  | [], [], p, _, _, h => by
    simp only [mdel, Option.some.injEq] at h
    subst h; exact ⟨rfl, rfl⟩
  | k' :: ks, u :: vs, p, a, b, h => by
    simp only [List.all_cons, Bool.and_eq_true] at a b
    simp only [mdel] at h
    split at h
    · simp only [Option.some.injEq] at h
      subst h; exact ⟨a.2, b.2⟩
    · simp only [Option.map_eq_some_iff] at h
      obtain ⟨q, h1, rfl⟩ := h
      obtain ⟨g1, g2⟩ := mdel_top ks vs q a.2 b.2 h1
      simp [a.1, b.1, g1, g2]
    · cases h
  | [], _ :: _, _, _, _, h => by cases h
  | _ :: _, [], _, _, _, h => by cases h

theorem key_map {d : Nat} (h : d < 500000) : isMapKey (d + 500000) = true := by
  unfold isMapKey
  rw [Nat.mod_eq_of_lt (by omega)]
  exact Nat.ble_eq_true_of_le (by omega)

/-- A new map. -/
theorem ok_makeMap (h : RelM c nt st a w m) (t : Nat) {d : Nat} (hd : d < 500000) :
    ∃ y w' m', (Instr.makeMap t none).run P w = .ok y w' ∧ RelM c nt (newBlk st (d + 500000) [.mapd [] []]).2 a w' m' ∧ VR (At (newBlk st (d + 500000) [.mapd [] []]).2 w' m') (.mref (d + 500000) (newBlk st (d + 500000) [.mapd [] []]).1) y := by
  have hT : Turn st w m (d + 500000) ⟨(st.tag, st.next), [.mapd [] []]⟩ (st.next + 1) (w.alloc (.map #[] 0)) (w.heap.size, 0) 1 :=
    ⟨Pres.alloc _ _ _, Nat.le_succ _, .inr (.inl (Nat.le_refl _)), .inr okS_fresh⟩
  refine ⟨.map (some w.heap.size), _, m.set (d + 500000) (w.heap.size, 0) 1, rfl, ?_, ?_⟩
  · rw [newBlk_turned]
    refine h.turn hT ⟨okS_new _ _, fun e => ?_, ?_⟩
    · have := h.next1
      simp only [turned, Prod.mk.injEq] at e
      omega
    · rw [key_map hd]
      refine ⟨[], [], #[], 0, rfl, ?_, ?_, ?_, ?_, .nil _, .nil _, rfl, rfl⟩
      · simp only [Mp.set, if_true]; exact alloc_heap _ _
      · simp only [Mp.set, if_true]
      · simp only [Mp.set, if_true]
      · simp only [Mp.set, if_true]; exact .inl h.pres.size
  · refine .mref (okS_new _ _) fun blk hb hs => ?_
    simp [Mp.set]

/-- A map of one's own turns. -/
theorem RelM.mapTurn (h : RelM c nt st a w m) {k : Nat} {blk : Blk} (hb : aget k st.heap = some blk) (hk : isMapKey k = true) {ks vs : List AV} {es : Array MapEntry} {n : Nat}
    (hks : VRs (At st w m) false ks (es.toList.map (·.key))) (hvs : VRs (At st w m) false vs (es.toList.map (·.val))) (tk : ks.all AV.top = true) (tv : vs.all AV.top = true) :
    RelM c nt (putCells st k [.mapd ks vs]) a (w.putMap (m.base k).1 es n) m := by
  have hB := h.blk k blk hb
  obtain ⟨ks0, vs0, es0, n0, y1, y2, y3, y4, y5, _⟩ := h.mapAt hb hk
  simp only at y2 y3 y4 y5
  have hput : putCells st k [.mapd ks vs] = turned st k ⟨blk.stamp, [.mapd ks vs]⟩ st.next := by
    simp [putCells, hb, turned]
  have hmset := m.set_self k
  have hlt : (m.base k).1 < w.heap.size := (Array.getElem?_eq_some_iff.1 y2).1
  have hT : Turn st w m k ⟨blk.stamp, [.mapd ks vs]⟩ st.next (w.putMap (m.base k).1 es n) (m.base k) (m.ext k) := by
    refine ⟨Pres.putMap y2 ⟨⟨blk, hb⟩, rfl, by omega, by omega⟩, Nat.le_refl _, .inr (.inr ⟨⟨blk, hb⟩, rfl, Nat.le_refl _, Nat.le_refl _⟩), .inl ⟨blk, hb, rfl, rfl, rfl, by rw [y1]; rfl⟩⟩
  have hl := hT.later
  have hR := h.turn hT (by
    rw [hmset] at hl ⊢
    refine ⟨hl.ok _ hB.1, hB.2.1, ?_⟩
    rw [hk]
    exact ⟨ks, vs, es, n, rfl, by rw [heap_putMap]; simp [hlt], y3, y4, y5, hks.move hl (.inl (Nat.le_refl _)), hvs.move hl (.inl (Nat.le_refl _)), tk, tv⟩)
  rw [hmset] at hR
  rw [hput]; exact hR

theorem keyEq_is {s : S} {t : TD} {d : TypeDesc} (hd : TDOK P t d) {k : AV} {x : Value} (hx : VR s k x) {b : Bool} (h : keyEq t k k = some b) : IsKey d x := by
  unfold keyEq at h
  split at h
  · cases d <;> simp only [TDOK] at hd
    cases hx
    split at h
    · rename_i e
      subst hd
      exact e.1
    · cases h
  · cases d <;> simp only [TDOK] at hd
    cases hx; trivial
  · cases d <;> simp only [TDOK] at hd
    cases hx; trivial
  · cases h

/-- A map's type, as the program has it. -/
theorem mapTy_ok {L : Nat → Option TI} (hL : LOK P L) {t e : Nat} {kt : TD} (h : mapTy L t = some (kt, e)) : ∃ k d, P.underlying t = some (.map k e) ∧ P.underlying k = some d ∧ TDOK P kt d := by
  unfold mapTy at h
  cases hi : L t with
  | none => simp [hi] at h
  | some i =>
    simp only [hi, Option.bind_eq_bind, Option.bind_some] at h
    split at h
    · rename_i k e' hd
      cases hj : L k with
      | none => simp [hj] at h
      | some j =>
        simp only [hj, Option.bind_some, Option.some.injEq, Prod.mk.injEq] at h
        obtain ⟨rfl, rfl⟩ := h
        obtain ⟨dt, q1, q2, _⟩ := (hL t i hi).run_und
        obtain ⟨dk, r1, r2, _⟩ := (hL k j hj).run_und
        rw [hd] at q1
        cases dt <;> simp only [TDOK] at q1
        obtain ⟨rfl, rfl⟩ := q1
        exact ⟨_, dk, q2, r2, r1⟩
    · cases h

theorem VR.mref_inv {s : S} {k : Nat} {σ : Nat × Nat} {x : Value} (h : VR s (.mref k σ) x) {blk : Blk} (hb : aget k s.heap = some blk) (hs : blk.stamp = σ) : x = .map (some (s.m.base k).1) := by
  cases h with | mref hok hl => rw [hl blk hb hs]

/-- A map of one's own, as it is read. -/
theorem RelM.mapRead (h : RelM c nt st a w m) {g : Nat} {σ : Nat × Nat} {ks vs : List AV} (hm : mapOf st g σ = some (ks, vs)) {x : Value} (hx : VR (At st w m) (.mref g σ) x) :
    ∃ es n, x = .map (some (m.base g).1) ∧ w.heap[(m.base g).1]? = some (.map es n) ∧ VRs (At st w m) false ks (es.toList.map (·.key)) ∧ VRs (At st w m) false vs (es.toList.map (·.val)) ∧ ks.all AV.top = true ∧ vs.all AV.top = true ∧
      ∃ blk, aget g st.heap = some blk ∧ isMapKey g = true := by
  obtain ⟨blk, b1, b2, b3, b4⟩ := mapOf_some hm
  obtain ⟨ks0, vs0, es, n, y1, y2, y3, y4, y5, y6, y7, y8, y9⟩ := h.mapAt b1 b4
  rw [b3] at y1
  simp only [List.cons.injEq, AV.mapd.injEq, and_true] at y1
  obtain ⟨rfl, rfl⟩ := y1
  exact ⟨es, n, hx.mref_inv b1 b2, y2, y6, y7, y8, y9, blk, b1, b4⟩

/-- Looking up. -/
theorem ok_lookup {L : Nat → Option TI} (hL : LOK P L) {t e : Nat} {kt : TD} (ht : mapTy L t = some (kt, e)) {j : TI} (hj : L e = some j) {s : S} {mv : Value} {es : Array MapEntry} {ks vs : List AV}
    (hes : (mv = .map none ∧ es = #[]) ∨ ∃ r n, mv = .map (some r) ∧ s.w.heap[r]? = some (.map es n)) (hks : VRs s false ks (es.toList.map (·.key))) (hvs : VRs s false vs (es.toList.map (·.val)))
    {k : AV} {x : Value} (hx : VR s k x) {v : AV} {is : Bool} (h : mlook kt j.zeroAV k ks vs = some (v, is)) (ok : Bool) :
    ∃ y, (Instr.lookup t mv x ok).run P s.w = .ok y s.w ∧ VR s (if ok then .tup [v, .bool is] else v) y := by
  obtain ⟨kty, d, hu, hk, hd⟩ := mapTy_ok hL ht
  obtain ⟨z, hz, hzr⟩ := (hL e j hj).run_zeroAV s
  unfold mlook at h
  split at h
  · rename_i hkk
    have hkey := keyEq_is hd hx hkk
    simp only [Option.map_eq_some_iff] at h
    obtain ⟨r, h1, h2⟩ := h
    have hf := mfind_ok hd hx es.toList ks vs 0 r hks hvs h1
    have fin : ∀ (y : Value) (yes : Bool), VR s v y → yes = is → VR s (if ok then .tup [v, .bool is] else v) (if ok then .tuple #[y, .bool yes] else y) := fun y yes hy e => by
      subst e
      cases ok
      · exact hy
      · exact .tup (vs := [y, .bool yes]) (.cons (fun e => by cases e) hy (.cons (fun e => by cases e) (.bool _) (.nil _)))
    have run : ∀ (a : Option (Nat × Value)), Instr.findNow d x es.toList 0 = some a → (Instr.lookup t mv x ok).run P s.w = .ok (match a with | some (_, y) => if ok then .tuple #[y, .bool true] else y | none => if ok then .tuple #[z, .bool false] else z) s.w := fun a ha => by
      rcases hes with ⟨rfl, rfl⟩ | ⟨r0, n, rfl, hr⟩
      · simp [Instr.lookup, run_underlying hu, run_checkKey hk hkey, run_findKey hk ha, Result.andThen]
        cases a with
        | none => simp [hzr, Result.andThen]
        | some p => simp [Result.andThen]
      · simp [Instr.lookup, run_underlying hu, MapKept.run_getObj_map hr, run_checkKey hk hkey, run_findKey hk ha, Result.andThen]
        cases a with
        | none => simp [hzr, Result.andThen]
        | some p => simp [Result.andThen]
    cases r with
    | none =>
      simp only [Prod.mk.injEq] at h2
      obtain ⟨rfl, rfl⟩ := h2
      exact ⟨_, run _ hf, fin z false hz rfl⟩
    | some u =>
      simp only [Prod.mk.injEq] at h2
      obtain ⟨rfl, rfl⟩ := h2
      obtain ⟨i, e', g1, g2, g3⟩ := hf
      exact ⟨_, run _ g1, fin e'.val true g3 rfl⟩
  · cases h

/-- A store into a map of one's own. -/
theorem ok_mapUpdate {L : Nat → Option TI} (hL : LOK P L) (h : RelM c nt st a w m) {t e : Nat} {kt : TD} (ht : mapTy L t = some (kt, e)) {g : Nat} {σ : Nat × Nat} {ks vs : List AV} (hm : mapOf st g σ = some (ks, vs))
    {mv x y : Value} (hv : VR (At st w m) (.mref g σ) mv) {k v : AV} (hx : VR (At st w m) k x) (hy : VR (At st w m) v y) (hkk : keyEq kt k k = some true) (htop : v.top = true) {p : List AV × List AV} (hp : mput kt k v ks vs = some p) :
    ∃ w', (Instr.mapUpdate t mv x y).run P w = .ok () w' ∧ RelM c nt (putCells st g [.mapd p.1 p.2]) a w' m := by
  obtain ⟨kty, d, hu, hk, hd⟩ := mapTy_ok hL ht
  obtain ⟨es, n, rfl, hb, hks, hvs, tk, tv, blk, b1, b2⟩ := h.mapRead hm hv
  have hkey := keyEq_is hd hx hkk
  have ktop : k.top = true := by
    unfold keyEq at hkk
    split at hkk <;> first | rfl | cases hkk
  obtain ⟨tp1, tp2⟩ := mput_top ktop htop ks vs p tk tv hp
  rcases mput_ok hd hx hy es.toList ks vs 0 n p hks hvs hp with ⟨g1, g2, g3⟩ | ⟨j, e', g1, g2, g3, g4, g5⟩
  · refine ⟨w.putMap (m.base g).1 (es.push { key := x, val := y, born := n }) (n + 1), ?_, h.mapTurn b1 b2 (by rw [Array.toList_push]; exact g2) (by rw [Array.toList_push]; exact g3) tp1 tp2⟩
    simp [Instr.mapUpdate, run_underlying hu, MapKept.run_getObj_map hb, run_checkKey hk hkey, run_findKey hk g1, MapKept.run_setObj_map _ hb, Result.andThen, World.putMap]
  · have hj : es[j]? = some e' := by simpa using g2
    refine ⟨w.putMap (m.base g).1 (es.modify j fun e => { e with key := x, val := y }) n, ?_, h.mapTurn b1 b2 (by rw [Array.toList_modify]; exact g4) (by rw [Array.toList_modify]; exact g5) tp1 tp2⟩
    have hstay : (Instr.keyThatStays e'.key x).run P w = .ok x w := by
      unfold Instr.keyThatStays
      rw [if_pos g3]; rfl
    simp [Instr.mapUpdate, run_underlying hu, MapKept.run_getObj_map hb, run_checkKey hk hkey, run_findKey hk g1, hj, hstay, MapKept.run_setObj_map _ hb, Result.andThen, World.putMap]

/-- A key of a map of one's own is struck. -/
theorem ok_delete {L : Nat → Option TI} (hL : LOK P L) (h : RelM c nt st a w m) {t e ty : Nat} {kt : TD} (ht : mapTy L t = some (kt, e)) {g : Nat} {σ : Nat × Nat} {ks vs : List AV} (hm : mapOf st g σ = some (ks, vs))
    {mv x : Value} (hv : VR (At st w m) (.mref g σ) mv) {k : AV} (hx : VR (At st w m) k x) (hkk : keyEq kt k k = some true) {p : List AV × List AV} (hp : mdel kt k ks vs = some p) (ts : Array Nat) (hts : ts[0]? = some t) :
    ∃ w', (Builtin.delete_ ts ty #[mv, x]).run P w = .ok (.tuple #[]) w' ∧ RelM c nt (putCells st g [.mapd p.1 p.2]) a w' m := by
  obtain ⟨kty, d, hu, hk, hd⟩ := mapTy_ok hL ht
  obtain ⟨es, n, rfl, hb, hks, hvs, tk, tv, blk, b1, b2⟩ := h.mapRead hm hv
  have hkey := keyEq_is hd hx hkk
  obtain ⟨tp1, tp2⟩ := mdel_top ks vs p tk tv hp
  rcases mdel_ok hd hx es.toList ks vs 0 p hks hvs hp with ⟨g1, g2, g3⟩ | ⟨j, e', g1, g2, g3, g4⟩
  · refine ⟨w.putMap (m.base g).1 es n, ?_, h.mapTurn b1 b2 g2 g3 tp1 tp2⟩
    simp [Builtin.delete_, hts, run_underlying hu, MapKept.run_getObj_map hb, run_checkKey hk hkey, run_findKey hk g1, MapKept.run_setObj_map _ hb, Result.andThen, World.putMap]
  · have hjl : j < es.size := by have := (List.getElem?_eq_some_iff.1 g2).1; simpa using this
    have he : (es.eraseIdxIfInBounds j).toList = es.toList.eraseIdx j := by
      unfold Array.eraseIdxIfInBounds
      rw [dif_pos hjl, Array.toList_eraseIdx]
    refine ⟨w.putMap (m.base g).1 (es.eraseIdxIfInBounds j) n, ?_, h.mapTurn b1 b2 (by rw [he]; exact g3) (by rw [he]; exact g4) tp1 tp2⟩
    simp [Builtin.delete_, hts, run_underlying hu, MapKept.run_getObj_map hb, run_checkKey hk hkey, run_findKey hk g1, MapKept.run_setObj_map _ hb, Result.andThen, World.putMap]

end

end Go.Sim
