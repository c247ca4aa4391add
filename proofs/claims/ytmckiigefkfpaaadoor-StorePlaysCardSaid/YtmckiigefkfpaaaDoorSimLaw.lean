/- From the interpreter's answer to a law's row: arguments opened once for all types, the call, the row's end. -/
import Derived.Test.YtmckiigefkfpaaaDoorSimFix
import Derived.Test.YtmckiigefkfpaaaDoorSimHFn
import Derived.ProofKit
import Derived.OpenShut
import Derived.Carry
import Derived.Below
import Derived.ChangeSame
import Derived.Deep.Slices
import Derived.Handed
set_option linter.unusedVariables false
set_option linter.unusedSimpArgs false
namespace Go.Sim
open Go

/-! ## shapes -/

def zipShp (Q : Nat → List AV → Prop) : List (Nat × Nat) → List AV → Prop
  | [], cs => cs = []
  | f :: fs, cs => ∃ a b, cs = a ++ b ∧ Q f.2 a ∧ zipShp Q fs b

/-- How the cells of an input of a type look. -/
def Shp (L : Nat → Option TI) : Nat → Nat → List AV → Prop
  | 0, _, _ => False
  | n + 1, t, cs => match L t with
    | none => False
    | some i => match i.desc with
      | .bool => ∃ b, cs = [.bool b]
      | .int k => ∃ x, cs = [.int k x] ∧ (Lit.int k x).wf = true
      | .str => ∃ s, cs = [.str s] ∧ s.size ≤ maxLen
      | .slice e => match L e with
        | none => False
        | some ie => ∃ parts : List (List AV), cs = [.isl ie.size parts.length parts.flatten] ∧ parts.length ≤ maxLen ∧ ∀ p ∈ parts, Shp L n e p
      | .arr m e => ∃ parts : List (List AV), cs = parts.flatten ∧ parts.length = m ∧ ∀ p ∈ parts, Shp L n e p
      | .strct fs => zipShp (Shp L n) fs cs
      | _ => False

def tiles (L : Nat → Option TI) (sz : Nat) : Nat → List (Nat × Nat) → Bool
  | o, [] => o == sz
  | o, (o', t) :: fs => o' == o && match L t with
    | some i => tiles L sz (o + i.size) fs
    | none => false

def okShape (L : Nat → Option TI) : Nat → Nat → Bool
  | 0, _ => false
  | n + 1, t => match L t with
    | none => false
    | some i => match i.desc with
      | .bool | .int _ | .str => true
      | .slice e => match L e with
        | some ie => decide (0 < ie.size) && okShape L n e
        | none => false
      | .arr m e => match L e with
        | some ie => i.size == m * ie.size && okShape L n e
        | none => false
      | .strct fs => tiles L i.size 0 fs && fs.all fun f => okShape L n f.2
      | _ => false

section
variable {P : Program} {L : Nat → Option TI} {s : S}

theorem TIOK.cellsOf {t : Nat} {i : TI} (h : TIOK P t i) : P.cellsOf t = i.size := by
  obtain ⟨info, d, z, h1, h2, h3, h4, _⟩ := h
  simp [Program.cellsOf, h1, h4]

theorem chunks {Q : List AV → Prop} {z : Nat} : ∀ (m : Nat) (vs : List Value), vs.length = m * z → (∀ i, i < m → ∃ c, VRs s true c ((vs.drop (i * z)).take z) ∧ Q c) →
    ∃ parts : List (List AV), parts.length = m ∧ VRs s true parts.flatten vs ∧ ∀ p ∈ parts, Q p
  | 0, vs, hl, _ => by
    have : vs = [] := List.eq_nil_of_length_eq_zero (by simpa using hl)
    subst this
    exact ⟨[], rfl, .nil _, by simp⟩
  | m + 1, vs, hl, h => by
    obtain ⟨c, hc, hq⟩ := h 0 (by omega)
    rw [Nat.add_mul, Nat.one_mul] at hl
    obtain ⟨parts, h1, h2, h3⟩ := chunks (Q := Q) (z := z) m (vs.drop z) (by rw [List.length_drop]; omega) fun i hi => by
      obtain ⟨c, hc, hq⟩ := h (i + 1) (by omega)
      refine ⟨c, ?_, hq⟩
      rw [List.drop_drop, show z + i * z = (i + 1) * z from by rw [Nat.add_mul]; omega]
      exact hc
    refine ⟨c :: parts, by simp [h1], ?_, by simpa using ⟨hq, h3⟩⟩
    have := hc.append h2
    simpa using this

theorem fields {Q : Nat → List AV → Prop} (hL : LOK P L) (vs : List Value) : ∀ (fs : List (Nat × Nat)) (o : Nat), tiles L vs.length o fs = true → o ≤ vs.length →
    (∀ f ∈ fs, ∃ c, VRs s true c ((vs.drop f.1).take (P.cellsOf f.2)) ∧ Q f.2 c) → ∃ cs, VRs s true cs (vs.drop o) ∧ zipShp Q fs cs
  | [], o, ht, ho, _ => by
    simp only [tiles, beq_iff_eq] at ht
    subst ht
    rw [List.drop_length]
    exact ⟨[], .nil _, rfl⟩
  | (o', t) :: fs, o, ht, ho, h => by
    simp only [tiles, Bool.and_eq_true, beq_iff_eq] at ht
    obtain ⟨rfl, ht⟩ := ht
    cases hl : L t with
    | none => simp [hl] at ht
    | some i =>
      simp only [hl] at ht
      obtain ⟨c, hc, hq⟩ := h (o', t) (by simp)
      simp only [(hL t i hl).cellsOf] at hc
      have key : ∀ (gs : List (Nat × Nat)) (o : Nat), tiles L vs.length o gs = true → o ≤ vs.length := by
        intro gs
        induction gs with
        | nil => intro o h; simp only [tiles, beq_iff_eq] at h; omega
        | cons g gs ih =>
          intro o h
          simp only [tiles, Bool.and_eq_true, beq_iff_eq] at h
          cases hg : L g.2 with
          | none => simp [hg] at h
          | some j => simp only [hg] at h; have := ih _ h.2; omega
      obtain ⟨cs, h1, h2⟩ := fields hL vs fs (o' + i.size) ht (key _ _ ht) fun f hf => h f (by simp [hf])
      refine ⟨c ++ cs, ?_, ⟨c, cs, rfl, hq, h2⟩⟩
      have := hc.append h1
      rwa [show (vs.drop o').take i.size ++ vs.drop (o' + i.size) = vs.drop o' from by rw [← List.drop_drop, List.take_append_drop]] at this

theorem flat_get {α : Type} {z : Nat} : ∀ (l : List (List α)), (∀ p ∈ l, p.length = z) → l.flatten.length = l.length * z ∧
    ∀ (k : Nat) (v : α), l.flatten[k]? = some v → ∃ i j p, l[i]? = some p ∧ j < z ∧ p[j]? = some v ∧ k = i * z + j
  | [], _ => by simp
  | p :: l, h => by
    obtain ⟨h1, h2⟩ := flat_get l fun q hq => h q (by simp [hq])
    have hp := h p (by simp)
    refine ⟨by simp [h1, hp, Nat.add_mul]; omega, fun k v hk => ?_⟩
    simp only [List.flatten_cons] at hk
    by_cases hlt : k < p.length
    · rw [List.getElem?_append_left hlt] at hk
      exact ⟨0, k, p, rfl, by omega, hk, by simp⟩
    · rw [List.getElem?_append_right (by omega)] at hk
      obtain ⟨i, j, q, a1, a2, a3, a4⟩ := h2 _ v hk
      exact ⟨i + 1, j, q, by simpa using a1, a2, a3, by rw [Nat.add_mul]; omega⟩

theorem shp_of_trod {H : Type} {enc : TypeId × Value → H} {base : Nat} {spare : Nat → Bool} {held : Bool} (hL : LOK P L) (hO : ∀ b o, ¬ Held s b o) :
    ∀ (n t fuel : Nat) (vs : List Value) (x : DataW H × List MemPlace), okShape L n t = true → DataW.trod enc P s.w base spare held fuel t vs = some x →
    ∃ cs, VRs s true cs vs ∧ Shp L n t cs
  | 0, t, fuel, vs, x, ho, _ => by simp [okShape] at ho
  | n + 1, t, fuel, vs, x, ho, h => by
    have ih := shp_of_trod (base := base) (spare := spare) (held := held) (enc := enc) hL hO n
    simp only [okShape] at ho
    cases hl : L t with
    | none => simp [hl] at ho
    | some i =>
      have hi := hL t i hl
      obtain ⟨d, hd, hu, _⟩ := hi.run_und
      have hc := hi.cellsOf
      simp only [hl] at ho
      simp only [Shp, hl]
      cases hds : i.desc with
      | bool =>
        rw [hds] at hd
        cases d <;> simp only [TDOK] at hd
        obtain ⟨b, rfl, _⟩ := DataW.trod_bool hu h
        exact ⟨[.bool b], .cons (fun _ => ⟨rfl, rfl⟩) (.bool b) (.nil _), b, rfl⟩
      | int k =>
        rw [hds] at hd
        cases d <;> simp only [TDOK] at hd
        subst hd
        obtain ⟨b, rfl, _, hw⟩ := DataW.trod_int hu h
        exact ⟨[.int k b], .cons (fun _ => ⟨rfl, rfl⟩) (.int k b) (.nil _), b, rfl, hw⟩
      | str =>
        rw [hds] at hd
        cases d <;> simp only [TDOK] at hd
        obtain ⟨b, rfl, _, hw⟩ := DataW.trod_string hu h
        exact ⟨[.str b], .cons (fun _ => ⟨rfl, rfl⟩) (.str b) (.nil _), b, rfl, hw⟩
      | slice e =>
        rw [hds] at hd
        cases d <;> simp only [TDOK] at hd
        subst hd
        simp only [hds] at ho
        cases he : L e with
        | none => simp [he] at ho
        | some ie =>
          simp only [he, Bool.and_eq_true, decide_eq_true_eq] at ho
          have hce := (hL e ie he).cellsOf
          simp only [he]
          rcases Deep.open_slice hu h with ⟨rfl, _⟩ | ⟨a, len, cap, m, n', D, Pl, rfl, hb, hlc, hcm, hm, _, hel⟩
          · exact ⟨[.isl ie.size 0 []], .cons (fun _ => ⟨rfl, rfl⟩) .islnil (.nil _), [], rfl, by simp, by simp⟩
          · have hlm : len ≤ m := by rw [hm]; split <;> omega
            have hpart : ∀ i, i < len → ∃ q : List AV × List Value, VRs s true q.1 q.2 ∧ Shp L n e q.1 ∧ q.2.length = ie.size ∧ ∀ j, j < ie.size → s.w.cell? (a.add (i * ie.size + j)) = q.2[j]? := by
              intro i hi
              obtain ⟨cs', g1, g2⟩ := hel i (by omega)
              obtain ⟨c, k1, k2⟩ := ih e _ _ _ ho.2 g2
              obtain ⟨_, g3, g4⟩ := World.cells?_some g1
              rw [hce] at g3 g4
              exact ⟨(c, cs'), k1, k2, g3, fun j hj => by rw [← Deep.add_add]; exact g4 j hj⟩
            obtain ⟨f, hf⟩ := Deep.choose_lt hpart
            have hparts : VRs s true ((List.range len).map fun i => (f i).1).flatten ((List.range len).map fun i => (f i).2).flatten := by
              have key : ∀ k, k ≤ len → VRs s true ((List.range k).map fun i => (f i).1).flatten ((List.range k).map fun i => (f i).2).flatten := by
                intro k
                induction k with
                | zero => intro _; exact .nil _
                | succ k ihk =>
                  intro hk
                  rw [List.range_succ]
                  simp only [List.map_append, List.map_cons, List.map_nil, List.flatten_append, List.flatten_cons, List.flatten_nil, List.append_nil]
                  exact (ihk (by omega)).append (hf k (by omega)).1
              exact key len (Nat.le_refl _)
            obtain ⟨hfl, hfg⟩ := flat_get (z := ie.size) ((List.range len).map fun i => (f i).2) (by
              intro p hp
              obtain ⟨i, hi, rfl⟩ := List.mem_map.1 hp
              exact (hf i (List.mem_range.1 hi)).2.2.1)
            refine ⟨[.isl ie.size len ((List.range len).map fun i => (f i).1).flatten], .cons (fun _ => ⟨rfl, rfl⟩) ?_ (.nil _), (List.range len).map fun i => (f i).1, by simp, by simp; omega, ?_⟩
            · by_cases hz : len = 0
              · subst hz; exact .islnil
              · have hsp : a.spot = none := by
                  have := (hf 0 (by omega)).2.2.2 0 ho.1
                  rw [Nat.zero_mul, Nat.zero_add] at this
                  have h0 : a.add 0 = a := by simp [Addr.add]
                  rw [h0] at this
                  have hlt : 0 < (f 0).2.length := by rw [(hf 0 (by omega)).2.2.1]; exact ho.1
                  rw [List.getElem?_eq_getElem hlt] at this
                  unfold World.cell? at this
                  split at this
                  · split at this
                    · cases this
                    · rename_i h; cases hs : a.spot <;> simp_all
                  · cases this
                refine .isl hsp hlc ?_ (fun k v hk => ⟨?_, hO _ _⟩) hparts
                · rw [hparts.length, hfl]; simp
                · obtain ⟨i, j, p, a1, a2, a3, rfl⟩ := hfg k v hk
                  simp only [List.getElem?_map, Option.map_eq_some_iff] at a1
                  obtain ⟨i', hi', rfl⟩ := a1
                  have hi2 := List.getElem?_eq_some_iff.1 hi'
                  obtain ⟨hlt, hi3⟩ := hi2
                  simp at hi3 hlt
                  subst hi3
                  rw [← a3, ← (hf i hlt).2.2.2 j a2, addr_add' hsp]
            · intro p hp
              obtain ⟨i, hi, rfl⟩ := List.mem_map.1 hp
              exact (hf i (List.mem_range.1 hi)).2.1
      | arr m e =>
        rw [hds] at hd
        cases d <;> simp only [TDOK] at hd
        obtain ⟨rfl, rfl⟩ := hd
        simp only [hds] at ho
        cases he : L e with
        | none => simp [he] at ho
        | some ie =>
          simp only [he, Bool.and_eq_true, beq_iff_eq] at ho
          have hce := (hL e ie he).cellsOf
          obtain ⟨xs, k, _, _, hlen, hxl, hx⟩ := DataW.trod_array hu h
          obtain ⟨parts, g1, g2, g3⟩ := chunks (s := s) (Q := Shp L n e) (z := ie.size) m vs (by rw [hlen, hc, ho.1]) fun i hi => by
            have := hx i hi
            have hlt : i < xs.length := by omega
            rw [List.getElem?_eq_getElem hlt, hce] at this
            exact ih e _ _ _ ho.2 this
          exact ⟨_, g2, parts, rfl, g1, g3⟩
      | strct fs =>
        rw [hds] at hd
        cases d <;> simp only [TDOK] at hd
        rename_i fs'
        obtain ⟨hfs, _⟩ := hd
        simp only [hds, Bool.and_eq_true] at ho
        obtain ⟨xs, k, _, _, hlen, hxl, hx⟩ := DataW.trod_struct hu h
        have := fields (s := s) (Q := Shp L n) hL vs fs 0 (by rw [hlen, hc]; exact ho.1) (by omega) fun f hf => by
          obtain ⟨j, hj⟩ := List.mem_iff_getElem?.1 hf
          rw [← hfs] at hj
          simp only [List.getElem?_map, Option.map_eq_some_iff, Array.getElem?_toList] at hj
          obtain ⟨fd, hj, rfl⟩ := hj
          have hlt : j < xs.length := by rw [hxl]; exact (Array.getElem?_eq_some_iff.1 hj).1
          have h2 := hx j fd hj
          rw [List.getElem?_eq_getElem hlt] at h2
          exact ih fd.type _ _ _ (by
            have := List.all_eq_true.1 ho.2 _ hf
            exact this) h2
        simpa using this
      | ptr e => simp [hds] at ho
      | func => simp [hds] at ho
      | map _ _ => simp [hds] at ho
      | iface => simp [hds] at ho
      | opq => simp [hds] at ho
      | other => simp [hds] at ho

/-! ## arguments -/

def ShpV (L : Nat → Option TI) (n t : Nat) (v : AV) : Prop :=
  match L t with
  | some i => if i.isAgg then ∃ cs, v = .agg cs ∧ Shp L n t cs else Shp L n t [v]
  | none => False

def ShpAll (L : Nat → Option TI) (n : Nat) : List Nat → List AV → Prop
  | [], vs => vs = []
  | t :: ts, vs => ∃ v vs', vs = v :: vs' ∧ ShpV L n t v ∧ ShpAll L n ts vs'

theorem okWide_flat {w : World} {r : Reach} {base t : Nat} {i : TI} {v : Value} (hi : TIOK P t i) (ha : i.isAgg = false) (h : Value.okWide P w r base t v) : v.cells.toList = [v] := by
  obtain ⟨d, hd, hu, _⟩ := hi.run_und
  simp only [Value.okWide, hu] at h
  unfold TI.isAgg at ha
  cases hds : i.desc <;> rw [hds] at hd <;> cases d <;> simp only [TDOK] at hd <;> simp only [hds] at ha <;>
    first
      | (cases ha; done)
      | (cases v <;> first | rfl | (simp only [Cell.okWide, Cell.ok, hu] at h; done))

theorem shp_value {H : Type} {enc : TypeId × Value → H} {base b0 : Nat} {r : Reach} {spare : Nat → Bool} {held : Bool} (hL : LOK P L) (hO : ∀ b o, ¬ Held s b o) {n t : Nat} {v : Value} {d : DataW H} {ps : List MemPlace}
    (ho : okShape L n t = true) (hw : Value.okWide P s.w r b0 t v) (h : DataW.Trod enc P s.w base spare held t v d ps) : ∃ c, VR s c v ∧ ShpV L n t c := by
  obtain ⟨fuel, h⟩ := h
  obtain ⟨cs, h1, h2⟩ := shp_of_trod hL hO n t fuel _ _ ho h
  unfold ShpV
  cases hl : L t with
  | none => cases n <;> simp [okShape, hl] at ho
  | some i =>
    have hi := hL t i hl
    simp only
    cases ha : i.isAgg with
    | false =>
      rw [okWide_flat hi ha hw] at h1
      simp only [if_false, Bool.false_eq_true]
      cases h1 with
      | cons g1 g2 g3 => cases g3; exact ⟨_, g2, h2⟩
    | true =>
      simp only [if_true]
      obtain ⟨d', hd, hu, _⟩ := hi.run_und
      have : ∃ cs : Array Value, v = .agg cs := by
        simp only [Value.okWide, hu] at hw
        unfold TI.isAgg at ha
        cases hds : i.desc <;> rw [hds] at hd <;> cases d' <;> simp only [TDOK] at hd <;> simp only [hds] at ha <;>
          first
            | (cases ha; done)
            | (obtain ⟨cs, rfl, _⟩ := hw; exact ⟨cs, rfl⟩)
      obtain ⟨cs', rfl⟩ := this
      simp only [Value.cells] at h1
      exact ⟨.agg cs, by simpa using VR.agg h1, cs, rfl, h2⟩

theorem shp_all {H : Type} {enc : TypeId × Value → H} {base b0 : Nat} {r : Reach} {spare : Nat → Bool} {held : Bool} (hL : LOK P L) (hO : ∀ b o, ¬ Held s b o) {n : Nat} : ∀ (ts : List Nat) (vs : List Value) (ds : List (DataW H)) (ps : List MemPlace),
    ts.all (okShape L n) = true → (∀ (j : Nat) t v, ts[j]? = some t → vs[j]? = some v → Value.okWide P s.w r b0 t v) → DataW.TrodAll enc P s.w base spare held ts vs ds ps →
    ∃ cs, VRs s false cs vs ∧ ShpAll L n ts cs
  | [], [], [], ps, _, _, _ => ⟨[], .nil _, rfl⟩
  | t :: ts, v :: vs, d :: ds, ps, ho, hw, h => by
    obtain ⟨p, q, h1, h2, rfl⟩ := h
    simp only [List.all_cons, Bool.and_eq_true] at ho
    obtain ⟨c, g1, g2⟩ := shp_value hL hO ho.1 (hw 0 t v rfl rfl) h1
    obtain ⟨cs, k1, k2⟩ := shp_all hL hO ts vs ds q ho.2 (fun j t v a b => hw (j + 1) t v (by simpa using a) (by simpa using b)) h2
    exact ⟨c :: cs, .cons (fun e => by cases e) g1 k1, c, cs, rfl, g2, k2⟩
  | [], _ :: _, _, _, _, _, h => h.elim
  | [], [], _ :: _, _, _, _, h => h.elim
  | _ :: _, [], _, _, _, _, h => h.elim
  | _ :: _, _ :: _, [], _, _, _, h => h.elim

theorem shpAll_length {n : Nat} : ∀ (ts : List Nat) (cs : List AV), ShpAll L n ts cs → cs.length = ts.length
  | [], cs, h => by simp only [ShpAll] at h; subst h; rfl
  | t :: ts, cs, h => by
    obtain ⟨v, vs, rfl, _, h⟩ := h
    simp [shpAll_length ts vs h]

/-! ## the call -/

theorem lentHeap_none (tag : Nat) : ∀ (k n : Nat), lentHeap tag k (List.replicate n none) = []
  | k, 0 => rfl
  | k, n + 1 => by simp [List.replicate_succ, lentHeap, lentHeap_none tag (k + 1) n]

theorem Pres.below {A : Nat → Nat → Prop} {w w' : World} (h : Pres A w w') (hA : ∀ b o, ¬ A b o) : RowKit.Below w.heap.size w w' := by
  refine ⟨h.os, h.tape, h.output, h.size, fun k hk => ?_⟩
  have hx : w.heap[k]? = some w.heap[k] := Array.getElem?_eq_getElem hk
  cases hob : w.heap[k] with
  | cells c e fr =>
    rw [hob] at hx
    obtain ⟨c', h1, h2, h3⟩ := h.cells k c e fr hx
    have : c' = c := Array.ext_getElem? fun o => h3 o (hA k o)
    rw [h1, hx, this]
  | _ =>
    rw [hob] at hx
    rw [hx, h.other k _ hx (by intros; simp) (hA k 0)]

/-- A law's call, from the interpreter's answer. -/
theorem law_calls (hm : P.follows .mixedOrders = true) (hL : LOK P L) {T : Nat → Option Entry} (hT : TableOK P L T) {f : Nat} {fa : AFn} (hf : T f = some (.code fa)) {w : World} {cs : List AV} {vs : List Value} {n : Nat} (hn : cs.length = n) {lent : List (Option (List AV))} {gl : Nat → Option Value} (hG : GlobP P gl) (hS : GlobS ⟨w, [], ⟨fun _ => (0, 0), fun _ => 0, w.heap.size, fun _ _ => False, gl⟩, 0, 1⟩)
    (hv : VRs ⟨w, [], ⟨fun _ => (0, 0), fun _ => 0, w.heap.size, fun _ _ => False, gl⟩, 0, 1⟩ false cs vs) (hr : callω L T f 0 cs (List.replicate n none) = some (.bool true, lent)) :
    Calls P f vs.toArray w fun e w' => e = .returned (.bool true) ∧ RowKit.Below w.heap.size w w' := by
  have hok := (callω_ok hm hL hT).one _ _ _ _ _ _ hr w vs ⟨fun _ => (0, 0), fun _ => 0, w.heap.size, fun _ _ => False, gl⟩ ⟨⟨rfl, fun _ _ h => h.elim⟩, by rw [lentHeap_none]; exact hS, by rw [lentHeap_none]; exact hv, (fun k b hk => by rw [lentHeap_none] at hk; cases hk), (fun k j b b' _ hk => by rw [lentHeap_none] at hk; cases hk)⟩ hG
  have hfn := (show f < 1000000000 ∧ FnOK P L f fa from hT f _ hf).2
  have he := hfn.enter vs.toArray w
  rcases hok with ⟨_, h⟩ | ⟨x, w', h, _⟩ | ⟨row, h, _⟩
  · refine h.mono ?_
    rintro e w' ⟨x, rfl, hp⟩
    obtain ⟨rs, hres, _⟩ := hp.res
    refine ⟨?_, hp.pres.below fun b o ho => ?_⟩
    · cases hres with
      | one h1 => cases h1 with | plain h2 => simp only [PV] at h2; rw [h2]
    · obtain ⟨k, blk, hk, _⟩ := ho
      simp only [lentHeap_none] at hk
      cases hk
  · rw [he] at h; cases h
  · rw [he] at h; cases h

end


/-! ## the row -/

section
open Go.RowKit Go.ChangeShapes Go.WideShapes

theorem post_of_below' {H : Type} {enc : TypeId × Value → H} {P : Program} {f : Func} {s : ChangeSpec} {apart fresh handsOn again : Bool} {W W' : World} {args : Array Value} {v : Value} {ds gs : List (DataW H)} {before pa pv : List MemPlace}
    (hW : DataW.Whole enc P f.params.toList s.vars apart W args.toList ds gs before)
    (hres : ∀ (b : Nat) (sp : Nat → Bool) (hd : Bool), DataW.TrodAll enc P W' b sp hd f.resultTypes.toList (v.resultList f.resultTypes.size) (s.fn H (ds ++ gs)).results [])
    (hargs : ∀ sp : Nat → Bool, (∀ p ∈ before, sp p.block = true) → DataW.TrodAll enc P W' 0 sp true f.params.toList args.toList (s.fn H (ds ++ gs)).args pa)
    (hvars : ∀ sp : Nat → Bool, (∀ p ∈ before, sp p.block = true) → DataW.TrodVars enc P W' sp s.vars (s.fn H (ds ++ gs)).vars pv)
    (hps : before = pa ++ pv) (hb : Below W.heap.size W W')
    (hok : ∀ (j : Nat) (t : TypeId) (r : Value), f.resultTypes[j]? = some t → (v.resultList f.resultTypes.size)[j]? = some r → Value.okWide P W' .any 0 t r) :
    s.post enc P f apart fresh handsOn again W args v W' := by
  have hlt : ∀ p ∈ before, p.block < W.heap.size := fun p hp => hW.lt p hp
  have hold : ∀ p ∈ before, (fun b => decide (b < W.heap.size)) p.block = true := fun p hp => by simpa using hlt p hp
  refine ⟨ds, gs, before, [], pa, pv, hW, hres _ _ _, hargs _ hold, hvars _ hold, World.keptBut_mono (fun p hp => ⟨hp, ?_⟩) (hb.frame (· ∈ before)), fun _ => ?_⟩
  · rw [hps, List.mem_append] at hp
    exact Or.inr hp
  · obtain ⟨_, _, _, _, _, hz, hn⟩ := hW
    refine ⟨hok, _, _, ([] ++ pa) ++ pv, ⟨[] ++ pa, pv, trodAll_append (hargs _ (fun _ _ => rfl)) (hres _ _ _), hvars _ (fun _ _ => rfl), rfl, ?_, ?_⟩, ?_⟩
    · intro b off hp
      have hin : MemPlace.cell b off ∈ before := by rw [hps]; simpa using hp
      rw [hb.frozen (hlt _ hin)]
      exact hz b off hin
    · intro ha
      have := hn ha
      rw [hps] at this
      simpa using this
    · intro p hp _
      rw [hps]
      simpa using hp

theorem trodAll_below {H : Type} {enc : TypeId × Value → H} {P : Program} (hl : laidOutB P = true) {W W' : World} (hb : Below W.heap.size W W') {sp : Nat → Bool} : ∀ (ts : List Nat) (vs : List Value) (ds : List (DataW H)) (ps : List MemPlace),
    (∀ t ∈ ts, P.readableRec t = true ∧ t < P.types.size) → DataW.TrodAll enc P W 0 (fun _ => true) true ts vs ds ps → (∀ p ∈ ps, p.block < W.heap.size) → (∀ p ∈ ps, sp p.block = true) →
    DataW.TrodAll enc P W' 0 sp true ts vs ds ps
  | [], [], [], ps, _, h, _, _ => h
  | t :: ts, v :: vs, d :: ds, ps, ht, h, hlt, hsp => by
    obtain ⟨p, q, h1, h2, rfl⟩ := h
    refine ⟨p, q, ?_, trodAll_below hl hb ts vs ds q (fun t h => ht t (by simp [h])) h2 (fun x hx => hlt x (by simp [hx])) (fun x hx => hsp x (by simp [hx])), rfl⟩
    obtain ⟨h3, h4⟩ := ht t (by simp)
    exact WideElems.Trod_stays hl h3 h4 h1 (fun x hx => hb.same (hlt x (by simp [hx]))) (fun x hx => hsp x (by simp [hx]))
  | [], _ :: _, _, _, _, h, _, _ => h.elim
  | [], [], _ :: _, _, _, h, _, _ => h.elim
  | _ :: _, [], _, _, _, h, _, _ => h.elim
  | _ :: _, _ :: _, [], _, _, h, _, _ => h.elim

theorem trodAll_len {H : Type} {enc : TypeId × Value → H} {P : Program} {W : World} {base : Nat} {sp : Nat → Bool} {hd : Bool} : ∀ (ts : List Nat) (vs : List Value) (ds : List (DataW H)) (ps : List MemPlace),
    DataW.TrodAll enc P W base sp hd ts vs ds ps → ds.length = ts.length
  | [], [], [], ps, _ => rfl
  | t :: ts, v :: vs, d :: ds, ps, h => by
    obtain ⟨p, q, h1, h2, rfl⟩ := h
    simp [trodAll_len ts vs ds q h2]
  | [], _ :: _, _, _, h => h.elim
  | [], [], _ :: _, _, h => h.elim
  | _ :: _, [], _, _, h => h.elim
  | _ :: _, _ :: _, [], _, h => h.elim

theorem law_lift {C : Checked} {os : Os} {f : FuncId} {F : Func} {L : Nat → Option TI} {T : Nat → Option Entry} {fa : AFn} {s : ChangeSpec} {H : Type} {enc : TypeId × Value → H} {n : Nat} {tb : TypeId}
    {conds : List PathCond} {apart fresh handsOn again : Bool}
    (own : ownKnob C.prog.godebug = none) (started : os.Started) (noInit : C.prog.inits.idxOf? f = none) (hfn : C.prog.funcs[f]? = some F)
    (hL : LOK C.prog L) (hT : TableOK C.prog L T) (hE : ∀ g, errG C.prog g = false) (hf : T f = some (.code fa)) (hlaid : laidOutB C.prog = true)
    (hps : F.params.toList.all (fun t => okShape L n t && C.prog.readableRec t && decide (t < C.prog.types.size)) = true)
    (hres : F.resultTypes = #[tb]) (hb : C.prog.underlying tb = some .bool)
    (hvars : s.vars = []) (hs : ∀ (H : Type) (ds : List (DataW H)), ds.length = F.params.toList.length → s.fn H ds = { results := [.lit (.bool true)], args := ds })
    (hlaw : ∀ cs, ShpAll L n F.params.toList cs → ∃ lent, callω L T f 0 cs (List.replicate F.params.toList.length none) = some (.bool true, lent))
    (witness : ∃ (w : World) (tape : Tape) (i : Input), w.os = os ∧ (w.forCall tape i).Shaped C.prog ∧ i.vars = [] ∧ Input.okWide C.prog (w.forCall tape i) .any w.heap.size f i ∧
      s.pre6 enc C.prog F conds apart (w.forCall tape i).memory i.args ∧ ({} : Assume).holds C.prog (lone (Frame.enter C.prog f i.args .normal) [] (w.forCall tape i))) :
    ReturnsInHanded {} C os f .any (s.pre6 enc C.prog F conds apart) (s.post enc C.prog F apart fresh handsOn again) := by
  refine returnsInHanded_of_change (C := C) own started noInit hfn witness ?_
  intro W base args ds gs before hval hW hcnd _
  have hW' := hW
  obtain ⟨p, q, hA, hV, rfl, hfz, hnd⟩ := hW
  rw [hvars] at hV
  obtain ⟨rfl, rfl⟩ := trodVars_none hV
  rw [List.append_nil] at hW'
  have hps' : ∀ t ∈ F.params.toList, okShape L n t = true ∧ C.prog.readableRec t = true ∧ t < C.prog.types.size := fun t ht => by
    have := List.all_eq_true.1 hps t ht
    simp only [Bool.and_eq_true, decide_eq_true_eq] at this
    exact ⟨this.1.1, this.1.2, this.2⟩
  obtain ⟨cs, hcs, hshp⟩ := shp_all (s := ⟨W, [], ⟨fun _ => (0, 0), fun _ => 0, W.heap.size, fun _ _ => False, fun _ => none⟩, 0, 1⟩) hL (fun b o hx => hx.elim (fun ⟨k, blk, hk, _⟩ => by cases hk) id) F.params.toList args.toList ds p
    (List.all_eq_true.2 fun t ht => (hps' t ht).1) (fun j t v h1 h2 => hval j t v (by simpa using h1) (by simpa using h2)) hA
  obtain ⟨lent, hlaw⟩ := hlaw cs hshp
  have hlen := trodAll_len _ _ _ _ hA
  refine (law_calls C.mixed hL hT hf (shpAll_length _ _ hshp) (gl := fun _ => none) ⟨fun g v h => (by cases h), fun g g' v h => (by cases h), fun g h => (by rw [hE g] at h; cases h)⟩ (fun g v h => (by cases h)) hcs hlaw).mono fun e W' ⟨he, hbl⟩ => ?_
  subst he
  have hspec := hs H (ds ++ []) (by simpa using hlen)
  refine ⟨_, rfl, post_of_below' (pa := p) (pv := []) hW' (fun b sp hd => ?_) (fun sp hsp => ?_) (fun sp _ => ?_) (by simp) hbl (ok_one hres rfl (okWide_bool_mk hb _))⟩
  · rw [hspec, hres]
    exact trodAll_cons_mk (shut_bool hb _) trodAll_mk0
  · rw [hspec]
    simp only [List.append_nil]
    exact trodAll_below hlaid hbl _ _ _ _ (fun t ht => (hps' t ht).2) hA (fun x hx => hW'.lt x hx) hsp
  · rw [hspec, hvars]
    rfl

end

end Go.Sim
