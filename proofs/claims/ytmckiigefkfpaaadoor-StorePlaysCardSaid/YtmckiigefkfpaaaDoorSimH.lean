/- Calls that take the memory with them, worked off step by step. -/
import Derived.Test.YtmckiigefkfpaaaDoorSimX
set_option linter.unusedVariables false
set_option linter.unusedSimpArgs false
namespace Go.Sim
open Go

/-- A call with memory. -/
noncomputable abbrev callH (L : Nat → Option TI) (T : Nat → Option Entry) (f tag : Nat) (args : List AV) (lent : List (Option (List AV))) : Option (AV × List (Option (List AV))) := callω L T (f + 1000000000) tag (.mapd [] [] :: args) lent
/-- A block that is handed over. -/
abbrev hb (k : Nat) (cells : List AV) : Option (List AV) := some (.mref k (0, 0) :: cells)

/-! ## values that lead nowhere -/
theorem shutL_nil : shutL [] = true := rfl
theorem shutL_cons (c : AV) (cs : List AV) : shutL (c :: cs) = (c.shut && shutL cs) := rfl
theorem shutL_app (a b : List AV) : shutL (a ++ b) = (shutL a && shutL b) := by
  induction a with
  | nil => rfl
  | cons c a ih => simp only [List.cons_append, shutL_cons, ih, Bool.and_assoc]
theorem plain_shut {c : AV} (h : c.plain = true) : c.shut = true := by cases c <;> simp [AV.plain] at h <;> rfl
theorem shutL_plain : ∀ {cs : List AV}, cs.all AV.plain = true → shutL cs = true
  | [], _ => rfl
  | c :: cs, h => by
    simp only [List.all_cons, Bool.and_eq_true] at h
    simp only [shutL_cons, plain_shut h.1, shutL_plain h.2, Bool.and_self]
theorem shutL_of {cs : List AV} (h : ∀ c ∈ cs, c.shut = true) : shutL cs = true := by
  induction cs with
  | nil => rfl
  | cons c cs ih => simp only [shutL_cons, h c (by simp), ih fun x hx => h x (by simp [hx]), Bool.and_self]
theorem shutL_map {α : Type} (f : α → AV) (h : ∀ x, (f x).shut = true) (l : List α) : shutL (l.map f) = true := shutL_of fun c hc => by
  obtain ⟨x, _, rfl⟩ := List.mem_map.1 hc
  exact h x
theorem shutL_str (l : List ByteArray) : shutL (l.map .str) = true := shutL_map _ (fun _ => rfl) l
theorem shutL_int (k : IntKind) (l : List Int) : shutL (l.map (.int k)) = true := shutL_map _ (fun _ => rfl) l
theorem shutL_bool (l : List Bool) : shutL (l.map .bool) = true := shutL_map _ (fun _ => rfl) l
theorem shutL_rep (n : Nat) (c : AV) (h : c.shut = true) : shutL (List.replicate n c) = true := shutL_of fun x hx => by rw [List.eq_of_mem_replicate hx]; exact h
theorem shut_mem {cs : List AV} (h : shutL cs = true) : ∀ c ∈ cs, c.shut = true := by
  induction cs with
  | nil => intro c hc; cases hc
  | cons x cs ih =>
    rw [shutL_cons, Bool.and_eq_true] at h
    intro c hc
    rcases List.mem_cons.1 hc with rfl | hc
    · exact h.1
    · exact ih h.2 c hc
theorem shutL_take {cs : List AV} (h : shutL cs = true) (n : Nat) : shutL (cs.take n) = true := shutL_of fun c hc => shut_mem h c (List.mem_of_mem_take hc)
theorem shutL_drop {cs : List AV} (h : shutL cs = true) (n : Nat) : shutL (cs.drop n) = true := shutL_of fun c hc => shut_mem h c (List.mem_of_mem_drop hc)
theorem shutL_repl {z : List AV} (h : shutL z = true) (n : Nat) : shutL (repl n z) = true := shutL_of fun c hc => by
  simp only [repl, List.mem_flatten] at hc
  obtain ⟨l, h1, h2⟩ := hc
  rw [List.eq_of_mem_replicate h1] at h2
  exact shut_mem h c h2

theorem shut_mapd (ks vs : List AV) : (AV.mapd ks vs).shut = (shutL ks && shutL vs) := rfl
theorem shut_isl (z n : Nat) (cs : List AV) : (AV.isl z n cs).shut = shutL cs := rfl
theorem shut_agg (cs : List AV) : (AV.agg cs).shut = shutL cs := rfl
theorem shut_ipt (cs : List AV) : (AV.ipt cs).shut = shutL cs := rfl
theorem shut_fn (f : Nat) (cs : List AV) : (AV.fn f cs).shut = shutL cs := rfl
theorem places_nil (p i : Nat) : places p i [] = [] := rfl
theorem places_one {v : AV} (h : v.shut = true) (p i : Nat) (vs : List AV) : places p i (v :: vs) = places p (i + 1) vs := by rw [places, if_pos h]
theorem places_two {v : AV} (h : v.shut = false) (p i : Nat) (vs : List AV) : places p i (v :: vs) = (v, nest p i) :: places p (i + 1) vs := by rw [places, if_neg (by rw [h]; decide)]
theorem places_shut {cs : List AV} (h : shutL cs = true) (p i : Nat) : places p i cs = [] := by
  induction cs generalizing i with
  | nil => rfl
  | cons c cs ih =>
    rw [shutL_cons, Bool.and_eq_true] at h
    rw [places_one h.1, ih h.2]
theorem places_app (p i : Nat) (a b : List AV) : places p i (a ++ b) = places p i a ++ places p (i + a.length) b := by
  induction a generalizing i with
  | nil => rfl
  | cons c a ih =>
    simp only [List.cons_append, places, ih, List.length_cons]
    rw [show i + 1 + a.length = i + (a.length + 1) from by omega]
    split <;> rfl
theorem roots_nil (j : Nat) : rootsAt j [] = [] := rfl
theorem roots_one {v : AV} (h : v.shut = true) (j : Nat) (vs : List AV) : rootsAt j (v :: vs) = rootsAt (j + 1) vs := by rw [rootsAt, if_pos h]
theorem roots_two {v : AV} (h : v.shut = false) (j : Nat) (vs : List AV) : rootsAt j (v :: vs) = (v, j) :: rootsAt (j + 1) vs := by rw [rootsAt, if_neg (by rw [h]; decide)]

mutual
theorem ren_shut (pk : Pk) : ∀ {v : AV}, v.shut = true → ren pk v = v
  | .isl z n cs, h => by rw [ren, renL_shut pk (show shutL cs = true from h)]
  | .ipt cs, h => by rw [ren, renL_shut pk (show shutL cs = true from h)]
  | .agg cs, h => by rw [ren, renL_shut pk (show shutL cs = true from h)]
  | .fn f cs, h => by rw [ren, renL_shut pk (show shutL cs = true from h)]
  | .mapd ks vs, h => by
    rw [AV.shut, Bool.and_eq_true] at h
    rw [ren, renL_shut pk h.1, renL_shut pk h.2]
  | .junk, _ | .bool _, _ | .int _ _, _ | .str _, _ | .nilp, _ | .nsl, _ | .nilI, _ | .nilF, _ | .nilM, _ | .gref _, _ | .err _, _ => by simp only [ren]
  | .ref .., h | .msl .., h | .mref .., h | .fsl .., h | .tup _, h => by simp [AV.shut] at h
theorem renL_shut (pk : Pk) : ∀ {cs : List AV}, shutL cs = true → renL pk cs = cs
  | [], _ => by simp only [renL]
  | c :: cs, h => by
    rw [shutL, Bool.and_eq_true] at h
    rw [renL, ren_shut pk h.1, renL_shut pk h.2]
end
theorem renL_nil (pk : Pk) : renL pk [] = [] := by simp only [renL]
theorem renL_cons (pk : Pk) (c : AV) (cs : List AV) : renL pk (c :: cs) = ren pk c :: renL pk cs := by simp only [renL]
theorem renL_app (pk : Pk) (a b : List AV) : renL pk (a ++ b) = renL pk a ++ renL pk b := by
  induction a with
  | nil => simp only [List.nil_append, renL_nil]
  | cons c a ih => simp only [List.cons_append, renL_cons, ih]
theorem ren_fsl (pk : Pk) (z n : Nat) (cs : List AV) : ren pk (.fsl z n cs) = .isl z n cs := by simp only [ren]
theorem ren_agg (pk : Pk) (cs : List AV) : ren pk (.agg cs) = .agg (renL pk cs) := by simp only [ren]
theorem ren_tup (pk : Pk) (cs : List AV) : ren pk (.tup cs) = .tup (renL pk cs) := by simp only [ren]
theorem ren_fn (pk : Pk) (f : Nat) (cs : List AV) : ren pk (.fn f cs) = .fn f (renL pk cs) := by simp only [ren]
theorem ren_mapd (pk : Pk) (ks vs : List AV) : ren pk (.mapd ks vs) = .mapd (renL pk ks) (renL pk vs) := by simp only [ren]
/-- What a name leads to. -/
def renTo (o : Option (Nat × (Nat × Nat))) (f : Nat → (Nat × Nat) → AV) : AV := match o with
  | some (k, g) => f k g
  | none => .junk
theorem ren_ref (pk : Pk) (k : Nat) (g : Nat × Nat) (o : Nat) : ren pk (.ref k g o) = renTo (look k g pk) fun k g => .ref k g o := by
  simp only [ren, renTo]
  cases look k g pk <;> rfl
theorem ren_msl (pk : Pk) (k : Nat) (g : Nat × Nat) (z o n : Nat) : ren pk (.msl k g z o n) = renTo (look k g pk) fun k g => .msl k g z o n := by
  simp only [ren, renTo]
  cases look k g pk <;> rfl
theorem ren_mref (pk : Pk) (k : Nat) (g : Nat × Nat) : ren pk (.mref k g) = renTo (look k g pk) fun k g => .mref k g := by
  simp only [ren, renTo]
  cases look k g pk <;> rfl
theorem renTo_some (k : Nat) (g : Nat × Nat) (f : Nat → (Nat × Nat) → AV) : renTo (some (k, g)) f = f k g := rfl
theorem renTo_none (f : Nat → (Nat × Nat) → AV) : renTo none f = .junk := rfl
theorem look_nil (k : Nat) (g : Nat × Nat) : look k g [] = none := rfl
theorem look_here (k : Nat) (g : Nat × Nat) (k1 : Nat) (g1 : Nat × Nat) (l : Pk) : look k g ((k, g, k1, g1) :: l) = some (k1, g1) := by simp [look]
theorem look_there {k k0 : Nat} (h : Nat.beq k0 k = false) (g g0 : Nat × Nat) (k1 : Nat) (g1 : Nat × Nat) (l : Pk) : look k g ((k0, g0, k1, g1) :: l) = look k g l := by
  rw [look, if_neg]
  exact fun e => Nat.ne_of_beq_eq_false h e.1
theorem look_old {k k0 : Nat} {g g0 : Nat × Nat} (h : ¬ g0 = g) (k1 : Nat) (g1 : Nat × Nat) (l : Pk) : look k g ((k0, g0, k1, g1) :: l) = look k g l := by
  rw [look, if_neg]
  exact fun e => h e.2

/-! keys alone -/
def sameMap : List Nat → List Nat → Bool
  | a :: as, b :: bs => (match isMapKey a, isMapKey b with | true, true => true | false, false => true | _, _ => false) && sameMap as bs
  | _, _ => true
def keysOk (ks ns : List Nat) : Bool := distinct ks && (distinct ns && sameMap ks ns)
theorem pkOk_of {pk : Pk} {ks ns : List Nat} (h1 : pk.map (·.1) = ks) (h2 : pk.map (·.2.2.1) = ns) (h : keysOk ks ns = true) : pkOk pk = true := by
  subst h1 h2
  simp only [keysOk, Bool.and_eq_true] at h
  simp only [pkOk, Bool.and_eq_true]
  refine ⟨⟨h.1, h.2.1⟩, ?_⟩
  have key : ∀ l : Pk, sameMap (l.map (·.1)) (l.map (·.2.2.1)) = true → (l.all fun x => isMapKey x.1 == isMapKey x.2.2.1) = true := by
    intro l
    induction l with
    | nil => intro _; rfl
    | cons x l ih =>
      intro h
      simp only [List.map_cons, sameMap, Bool.and_eq_true] at h
      simp only [List.all_cons, Bool.and_eq_true]
      refine ⟨?_, ih h.2⟩
      have := h.1
      cases h1 : isMapKey x.1 <;> cases h2 : isMapKey x.2.2.1 <;> rw [h1, h2] at this <;> first | rfl | (cases this; done)
  exact key pk h.2.2
def pfind (k' : Nat) : Pk → Option (Nat × (Nat × Nat) × Nat × (Nat × Nat))
  | [] => none
  | (k, σ, k1, g) :: l => match Nat.beq k1 k' with
    | true => some (k, σ, k1, g)
    | false => pfind k' l
theorem pfind_eq (k' : Nat) (pk : Pk) : pk.find? (fun x => x.2.2.1 == k') = pfind k' pk := by
  induction pk with
  | nil => rfl
  | cons x l ih =>
    obtain ⟨k, σ, k1, g⟩ := x
    simp only [pfind, List.find?_cons, ih]
    rcases beq_tf k1 k' with ⟨h, e⟩ | ⟨h, e⟩
    · rw [h]; simp [e]
    · rw [h]; simp [beq_eq_false_iff_ne.2 e]
def bringR (d : Nat) (roots : List Nat) (pk : Pk) : Nat → Nat → Nat
  | 0, p => nest d p
  | n + 1, p => match (match roots.contains p with | true => pfind p pk | false => none) with
    | some (k, _, _, _) => k
    | none => match Nat.ble 1000000 p with
      | true => nest (bringR d roots pk n (p / 1000000 - 1)) (p % 1000000)
      | false => nest d p
theorem bring_eq (d : Nat) (roots : List Nat) (pk : Pk) (n p : Nat) : bring d (pk.filter fun x => roots.contains x.2.2.1) n p = bringR d roots pk n p := by
  induction n generalizing p with
  | zero => rfl
  | succ n ih =>
    have hf : (pk.filter fun x => roots.contains x.2.2.1).find? (fun x => x.2.2.1 == p) = match roots.contains p with | true => pfind p pk | false => none := by
      rw [← pfind_eq]
      cases hr : roots.contains p with
      | true =>
        simp only
        clear ih
        induction pk with
        | nil => rfl
        | cons x l ihl =>
          by_cases hx : x.2.2.1 = p
          · rw [List.filter_cons_of_pos (by rw [hx]; exact hr)]
            simp [List.find?_cons, hx]
          · by_cases hc : roots.contains x.2.2.1 = true
            · rw [List.filter_cons_of_pos (by exact hc)]
              simp only [List.find?_cons, beq_eq_false_iff_ne.2 hx]
              exact ihl
            · rw [List.filter_cons_of_neg (by exact hc)]
              simp only [List.find?_cons, beq_eq_false_iff_ne.2 hx]
              exact ihl
      | false =>
        simp only
        rw [List.find?_eq_none]
        intro x hx hk
        rw [List.mem_filter] at hx
        simp only [beq_iff_eq] at hk
        rw [hk, hr] at hx
        cases hx.2
    simp only [bring, bringR, hf, ih]
    generalize (match roots.contains p with | true => pfind p pk | false => none) = o
    cases o with
    | none => cases Nat.ble 1000000 p <;> rfl
    | some x => obtain ⟨k, σ, k1, g⟩ := x; rfl

def kfind (k' : Nat) : List (Nat × Nat) → Option Nat
  | [] => none
  | (k, k1) :: l => match Nat.beq k1 k' with
    | true => some k
    | false => kfind k' l
theorem kfind_eq (k' : Nat) (pk : Pk) : kfind k' (pk.map fun x => (x.1, x.2.2.1)) = (pfind k' pk).map (·.1) := by
  induction pk with
  | nil => rfl
  | cons x l ih =>
    obtain ⟨k, σ, k1, g⟩ := x
    simp only [List.map_cons, kfind, pfind, ih]
    cases Nat.beq k1 k' <;> rfl
def bringK (d : Nat) (roots : List Nat) (kn : List (Nat × Nat)) : Nat → Nat → Nat
  | 0, p => nest d p
  | n + 1, p => match (match roots.contains p with | true => kfind p kn | false => none) with
    | some k => k
    | none => match Nat.ble 1000000 p with
      | true => nest (bringK d roots kn n (p / 1000000 - 1)) (p % 1000000)
      | false => nest d p
theorem bringK_eq (d : Nat) (roots : List Nat) (pk : Pk) (n p : Nat) : bringR d roots pk n p = bringK d roots (pk.map fun x => (x.1, x.2.2.1)) n p := by
  induction n generalizing p with
  | zero => rfl
  | succ n ih =>
    simp only [bringR, bringK, kfind_eq, ih]
    cases roots.contains p with
    | true =>
      simp only
      cases pfind p pk with
      | none => rfl
      | some x => obtain ⟨k, σ, k1, g⟩ := x; rfl
    | false => rfl

/-! ## what is reached -/
section
variable {rd : Option (List Nat)} {st : St} {g : Nat × Nat} {n : Nat} {wl rest ps : List (AV × Nat)} {pk pk' : Pk} {v : AV} {p : Nat} {k : Nat} {σ : Nat × Nat} {cells : List AV} {r : Option Pk}
theorem vis_nil : visit rd st g n [] pk = some pk := by unfold visit; rfl
theorem vis_seen {q : Nat × (Nat × Nat)} (hv : refOf v = some (k, σ)) (hl : look k σ pk = some q) (h : visit rd st g n rest pk = r) : visit rd st g (n + 1) ((v, p) :: rest) pk = r := by
  rw [visit, hv]; simp only [hl, Option.isSome_some, if_true]; exact h
theorem vis_ref {q : Nat} (hv : refOf v = some (k, σ)) (hl : look k σ pk = none) (hk : okKey rd k = true) (hb : aget k st.heap = some ⟨σ, cells⟩) (hp : places p 0 cells = ps) (hr : rest ++ ps = wl)
    (hm : (match isMapKey k with | true => p + 500000 | false => p) = q) (hq : pk ++ [(k, σ, q, g)] = pk') (h : visit rd st g n wl pk' = r) : visit rd st g (n + 1) ((v, p) :: rest) pk = r := by
  have hm' : (if isMapKey k then p + 500000 else p) = q := by rw [← hm]; cases isMapKey k <;> rfl
  rw [visit, hv]; simp only [hl, Option.isSome_none, Bool.false_eq_true, if_false, hk, if_true, hb, placesP, hp, hr, hm', hq]; exact h
theorem vis_dead (hv : refOf v = some (k, σ)) (hl : look k σ pk = none) (hk : okKey rd k = true) (hb : aget k st.heap = none) (h : visit rd st g n rest pk = r) : visit rd st g (n + 1) ((v, p) :: rest) pk = r := by
  rw [visit, hv]; simp only [hl, Option.isSome_none, Bool.false_eq_true, if_false, hk, if_true, hb]; exact h
theorem vis_val (hv : refOf v = none) (hp : kids p v = ps) (hr : rest ++ ps = wl) (h : visit rd st g n wl pk = r) : visit rd st g (n + 1) ((v, p) :: rest) pk = r := by
  rw [visit, hv]; simp only [hp, hr]; exact h
theorem kids_isl (z n : Nat) (cs : List AV) : kids p (.isl z n cs) = places p 0 cs := rfl
theorem kids_ipt (cs : List AV) : kids p (.ipt cs) = places p 0 cs := rfl
theorem kids_agg (cs : List AV) : kids p (.agg cs) = places p 0 cs := rfl
theorem kids_tup (cs : List AV) : kids p (.tup cs) = places p 0 cs := rfl
theorem kids_fn (f : Nat) (cs : List AV) : kids p (.fn f cs) = places p 0 cs := rfl
theorem kids_mapd (ks vs : List AV) : kids p (.mapd ks vs) = places p 0 ks ++ places p ks.length vs := rfl
theorem kids_fsl (z n : Nat) (cs : List AV) : kids p (.fsl z n cs) = [] := rfl

/-! ## handed over, given back -/
variable {l0 : Pk} {k' : Nat} {cs : List AV} {l : List (Option (List AV))} {h' : Nat × Nat}
theorem packed_nil : packed st pk [] = some [] := rfl
theorem packed_cons (hb : aget k st.heap = some ⟨σ, cells⟩) (hr : renL pk cells = cs) (h : packed st pk l0 = some l) : packed st pk ((k, σ, k', g) :: l0) = some (some (.mref k' (0, 0) :: cs) :: l) := by
  simp only [packed, hb, if_true, h, hr, Option.map_some]
variable {d tag : Nat} {roots : List Nat} {bk : Pk} {k2 : Nat}
theorem backPk_nil : backPk st d tag pk roots [] = some [] := rfl
theorem backPk_root {q : Nat × Nat} (hr : roots.contains k' = true) (hf : pfind k' pk = some (k, σ, k2, q)) (h : backPk st d tag pk roots l = some bk) :
    backPk st d tag pk roots (some (.mref k' h' :: cells) :: l) = some ((k', (tag, 0), k, σ) :: bk) := by
  simp only [backPk, h, hr, if_true, pfind_eq, hf, Option.bind_eq_bind, Option.bind_some]
theorem backPk_new {kn : List (Nat × Nat)} (hr : roots.contains k' = false) (hm : pk.map (fun x => (x.1, x.2.2.1)) = kn) (hf : bringK d roots kn 20 k' = k2) (h : backPk st d tag pk roots l = some bk) :
    backPk st d tag pk roots (some (.mref k' h' :: cells) :: l) = some ((k', (tag, 0), k2, (st.tag, st.next)) :: bk) := by
  subst hm
  simp only [backPk, h, hr, Bool.false_eq_true, if_false, bring_eq, bringK_eq, hf, Option.bind_eq_bind, Option.bind_some]
theorem backOk_nil : backOk st roots [] [] = true := rfl
theorem backOk_root {c : AV} (hr : roots.contains k' = true) (hb : aget k2 st.heap = some ⟨σ, cs⟩) (hl : cs.length = cells.length) (h : backOk st roots bk l = true) :
    backOk st roots ((k', g, k2, h') :: bk) (some (c :: cells) :: l) = true := by
  simp only [backOk, hr, if_true, lenOf, hb, Option.map_some, hl, h, beq_self_eq_true, Bool.and_self]
theorem backOk_new {c : AV} (hr : roots.contains k' = false) (hb : (Nat.ble 1000000 k2 || isMapKey k2) = true) (h : backOk st roots bk l = true) :
    backOk st roots ((k', g, k2, h') :: bk) (some (c :: cells) :: l) = true := by
  simp only [backOk, hr, Bool.false_eq_true, if_false, hb, h, Bool.and_self]
variable {hs hr : List (Nat × Blk)}
theorem backHeap_nil {r : List (Option (List AV))} : backHeap pk [] r = [] := by simp only [backHeap]
theorem backHeap_cons {c : AV} (h1 : renL pk cells = cs) (h : backHeap pk l0 l = hs) : backHeap pk ((k', g, k2, h') :: l0) (some (c :: cells) :: l) = (k2, ⟨h', cs⟩) :: hs := by
  simp only [backHeap, h1, h]
/-- Blocks that stay. -/
def stays (a b : List Nat) (h : List (Nat × Blk)) : List (Nat × Blk) := h.filter fun p => !a.contains p.1 && !b.contains p.1
variable {a b : List Nat} {bl : Blk}
theorem stays_nil : stays a b [] = [] := rfl
theorem stays_keep (h : (!a.contains k && !b.contains k) = true) (h1 : stays a b hs = hr) : stays a b ((k, bl) :: hs) = (k, bl) :: hr := by
  rw [← h1, stays, List.filter_cons_of_pos (by exact h)]; rfl
theorem stays_drop (h : (!a.contains k && !b.contains k) = false) (h1 : stays a b hs = hr) : stays a b ((k, bl) :: hs) = hr := by
  rw [← h1, stays, List.filter_cons_of_neg (by rw [h]; decide)]; rfl
end
section
variable {L : Nat → Option TI} {Γ : Oracle}
/-- A call that takes the memory with it. -/
theorem h_step {rd : Option (List Nat)} {f tag next d : Nat} {env : List (Nat × AV)} {heap hs hr heap' : List (Nat × Blk)} {args args' : List AV} {wl : List (AV × Nat)} {pk bk : Pk} {ks ns k1s k2s roots : List Nat} {l r : List (Option (List AV))} {v v' : AV} {κ : AV → St → Ans}
    (h0 : rootsAt 0 args = wl) (h1 : visit rd ⟨env, heap, next, tag⟩ (tag + 1, 0) 200 wl [] = some pk) (g1 : pk.map (·.1) = ks) (g2 : pk.map (·.2.2.1) = ns) (h2 : keysOk ks ns = true) (h3 : packed ⟨env, heap, next, tag⟩ pk pk = some l) (h4 : renL pk args = args')
    (hc : Γ (f + 1000000000) (tag + 1) (.mapd [] [] :: args') l = some (v, r)) (h5 : rootKeys args' = roots)
    (h6 : backPk ⟨env, heap, next, tag⟩ d (tag + 1) pk roots r = some bk) (g3 : bk.map (·.1) = k1s) (g4 : bk.map (·.2.2.1) = k2s) (h7 : (k2s.all (okKey rd) && keysOk k1s k2s) = true) (h8 : backOk ⟨env, heap, next, tag⟩ roots bk r = true)
    (h9 : backHeap bk bk r = hs) (h12 : stays ks k2s heap = hr) (h13 : hs ++ hr = heap') (h14 : ren bk v = v') :
    hX rd Γ ⟨env, heap, next, tag⟩ d f args κ = κ v' ⟨env, heap', next + 1, tag⟩ := by
  subst h0
  rw [renL_map] at h4
  rw [Bool.and_eq_true] at h7
  subst h5
  have h15 := pkOk_of g3 g4 h7.2
  subst g4 g1
  exact h_call h1 (pkOk_of rfl g2 h2) h3 h4 hc h6 (by rw [h7.1, h15, h8]; rfl) (by rw [h9]; exact (congrArg (hs ++ ·) h12).trans h13) h14
theorem getAll_nil {st : St} : getAll L st [] = some [] := rfl
theorem getAll_tmp {st : St} {k : Nat} {ks : List ResultVar} {v : AV} {vs : List AV} (h : aget k st.env = some v) (h1 : getAll L st ks = some vs) : getAll L st (.tmp k :: ks) = some (v :: vs) := by
  simp only [getAll, getRes, h, h1, Option.getD_some, Option.bind_some, Option.map_some]
theorem getAll_cell {st : St} {k t : Nat} {ks : List ResultVar} {a v : AV} {vs : List AV} {i : TI} (hL : L t = some i) (h : aget k st.env = some a) (hl : aLoad i st a = some v) (h1 : getAll L st ks = some vs) : getAll L st (.cell k t :: ks) = some (v :: vs) := by
  simp only [getAll, getRes, hL, h, hl, h1, Option.getD_some, Option.bind_some, Option.map_some]
/-- The end of a function that took memory. -/
theorem fin_step {rs : List ResultVar} {e : Ex} {tag next : Nat} {env : List (Nat × AV)} {heap : List (Nat × Blk)} {args gs gs' : List AV} {wl wl' w : List (AV × Nat)} {pk : Pk} {r : List (Option (List AV))} {v : AV} (he : e = .ret ∨ e = .normal)
    (h0 : getAll L ⟨env, heap, next, tag⟩ rs = some gs) (ha : rootsAt 0 args = wl) (hb : rootsAt 400000 gs = wl') (hw : wl ++ wl' = w) (h1 : visit none ⟨env, heap, next, tag⟩ (tag, 0) 200 w [] = some pk)
    {ks ns : List Nat} (g1 : pk.map (·.1) = ks) (g2 : pk.map (·.2.2.1) = ns) (h2 : keysOk ks ns = true) {roots : List Nat} (h7 : rootKeys args = roots) (h5 : roots.all (fun k => look k (tag, 0) pk == some (k, (tag, 0))) = true) (h3 : packed ⟨env, heap, next, tag⟩ pk pk = some r) (h4 : renL pk gs = gs') (h6 : oneOrTup gs' = v) :
    finH L rs tag args e ⟨env, heap, next, tag⟩ = some (v, r) := by
  subst ha hb hw h6 h7
  rw [renL_map] at h4
  subst h4
  exact fin_h he h0 h1 (by rw [pkOk_of g1 g2 h2, h5]; rfl) h3 rfl
end
/-! roots -/
def refsOf (cs : List AV) : List Nat := cs.filterMap fun c => (refOf c).map (·.1)
theorem rk_nil : rootKeys [] = [] := rfl
theorem rk_ref (k : Nat) (g : Nat × Nat) (o : Nat) (vs : List AV) : rootKeys (.ref k g o :: vs) = k :: rootKeys vs := rfl
theorem rk_msl (k : Nat) (g : Nat × Nat) (z o n : Nat) (vs : List AV) : rootKeys (.msl k g z o n :: vs) = k :: rootKeys vs := rfl
theorem rk_mref (k : Nat) (g : Nat × Nat) (vs : List AV) : rootKeys (.mref k g :: vs) = k :: rootKeys vs := rfl
theorem rk_fn (f : Nat) (cs vs : List AV) : rootKeys (.fn f cs :: vs) = refsOf cs ++ rootKeys vs := rfl
theorem rk_agg (cs vs : List AV) : rootKeys (.agg cs :: vs) = refsOf cs ++ rootKeys vs := rfl
theorem rf_nil : refsOf [] = [] := rfl
theorem rf_ref (k : Nat) (g : Nat × Nat) (o : Nat) (cs : List AV) : refsOf (.ref k g o :: cs) = k :: refsOf cs := rfl
theorem rf_msl (k : Nat) (g : Nat × Nat) (z o n : Nat) (cs : List AV) : refsOf (.msl k g z o n :: cs) = k :: refsOf cs := rfl
theorem rf_mref (k : Nat) (g : Nat × Nat) (cs : List AV) : refsOf (.mref k g :: cs) = k :: refsOf cs := rfl
theorem rf_one {c : AV} (h : c.shut = true) (cs : List AV) : refsOf (c :: cs) = refsOf cs := by cases c <;> simp [AV.shut] at h <;> rfl
theorem rf_app (a b : List AV) : refsOf (a ++ b) = refsOf a ++ refsOf b := by simp [refsOf]
theorem rf_shut {cs : List AV} (h : shutL cs = true) : refsOf cs = [] := by
  induction cs with
  | nil => rfl
  | cons c cs ih =>
    rw [shutL_cons, Bool.and_eq_true] at h
    rw [rf_one h.1, ih h.2]
theorem rk_shut {v : AV} (h : v.shut = true) (vs : List AV) : rootKeys (v :: vs) = rootKeys vs := by
  cases v <;> simp [AV.shut] at h <;> first | rfl | (rename_i cs; exact congrArg (· ++ rootKeys vs) (rf_shut h)) | (rename_i f cs; exact congrArg (· ++ rootKeys vs) (rf_shut h))
theorem all_nil {tag : Nat} {pk : Pk} : ([] : List Nat).all (fun k => look k (tag, 0) pk == some (k, (tag, 0))) = true := rfl
theorem all_cons {tag k : Nat} {ks : List Nat} {pk : Pk} (h : look k (tag, 0) pk = some (k, (tag, 0))) (h1 : ks.all (fun k => look k (tag, 0) pk == some (k, (tag, 0))) = true) :
    (k :: ks).all (fun k => look k (tag, 0) pk == some (k, (tag, 0))) = true := by
  simp only [List.all_cons, h, h1, beq_self_eq_true, Bool.and_self]
theorem call_exh2 {L : Nat → Option TI} {T : Nat → Option Entry} {f : Nat} {a : AFn} (h : T f = some (.hcode a)) {tag : Nat} {args : List AV} {lent : List (Option (List AV))} {env : List (Nat × AV)} {heap : List (Nat × Blk)}
    (h1 : args.length = a.np) (he : argEnv 0 args = env) (hh : hHeap tag lent = heap) :
    callω L T f tag (.mapd [] [] :: args) lent = ex ⟨L, a.ann, callω L T, a.np, a.frz, a.results, []⟩ a.body ⟨env, heap, 1, tag⟩ (finH L a.results tag args) := by
  subst he hh
  exact call_exh h h1

/-- A loop that counts up to n, what comes out of it by where it stands. -/
theorem headX_at {F : Fx} {a : Code} {κ : Ex → St → Ans} (S : Nat → Nat → St) (n : Nat) (out : Nat → Ans)
    (h : ∀ k nx, k < n → (∀ nx', headX F a (S (k + 1) nx') κ = out (k + 1)) → ex F a (S k nx) (seqK (loopX F a) κ) = out k)
    (hn : ∀ nx, ex F a (S n nx) (seqK (loopX F a) κ) = out n) (nx : Nat) : headX F a (S 0 nx) κ = out 0 := by
  have H : ∀ m k nx, k + m = n → headX F a (S k nx) κ = out k := by
    intro m
    induction m with
    | zero => intro k nx hk; rw [show k = n from by omega, headX_go, hn]
    | succ m ih => intro k nx hk; rw [headX_go, h k nx (by omega) fun nx' => ih (k + 1) nx' (by omega)]
  exact H n 0 nx (by omega)
/-- The same, with things carried on. -/
theorem headX_atX {F : Fx} {a : Code} {κ : Ex → St → Ans} {X : Type} (I : Nat → X → Prop) (S : Nat → X → St) (n : Nat) (out : Nat → X → Ans)
    (h : ∀ k x, k < n → I k x → (∀ y, I (k + 1) y → headX F a (S (k + 1) y) κ = out (k + 1) y) → ex F a (S k x) (seqK (loopX F a) κ) = out k x)
    (hn : ∀ x, I n x → ex F a (S n x) (seqK (loopX F a) κ) = out n x) (k : Nat) (hk : k ≤ n) (x : X) (hx : I k x) : headX F a (S k x) κ = out k x := by
  have H : ∀ m k x, k + m = n → I k x → headX F a (S k x) κ = out k x := by
    intro m
    induction m with
    | zero => intro k x hk hx; obtain rfl : k = n := by omega
              rw [headX_go, hn x hx]
    | succ m ih => intro k x hk hx; rw [headX_go, h k x (by omega) hx fun y hy => ih (k + 1) y (by omega) hy]
  exact H (n - k) k x (by omega) hx

theorem key_eq {k k' : Nat} {κ : Nat → Ans} (h : k = k') : keyX k κ = κ k' := by rw [keyX, h]
/-! rows of a store's keys -/
theorem map_at {α : Type} (f : α → AV) (l : List α) (sp : List AV) {k : Nat} (h : k < l.length) : (l.map f ++ sp)[k]? = some (f l[k]) := by
  rw [List.getElem?_append_left (by simpa using h)]; simp [h]
/-- Where the first one is, from k on; -1: there is none. -/
def ixF {α : Type} (p : α → Bool) : Nat → List α → Int
  | _, [] => -1
  | k, x :: l => if p x then k else ixF p (k + 1) l

theorem mkB {a b : Bool} (h : a = b) : a = b := h

/-! bundles -/
theorem shs : type_of% (And.intro shut_mapd <| And.intro shut_isl <| And.intro shut_agg <| And.intro shut_ipt <| And.intro shut_fn <| And.intro shutL_nil <| And.intro shutL_cons <| And.intro shutL_app <| And.intro shutL_str <| And.intro shutL_int <| And.intro shutL_bool <| And.intro @shutL_rep <| And.intro Bool.and_true <| And.intro Bool.true_and Bool.and_self) :=
  And.intro shut_mapd <| And.intro shut_isl <| And.intro shut_agg <| And.intro shut_ipt <| And.intro shut_fn <| And.intro shutL_nil <| And.intro shutL_cons <| And.intro shutL_app <| And.intro shutL_str <| And.intro shutL_int <| And.intro shutL_bool <| And.intro @shutL_rep <| And.intro Bool.and_true <| And.intro Bool.true_and Bool.and_self
theorem pls : type_of% (And.intro places_nil <| And.intro @places_one <| And.intro @places_two <| And.intro @places_shut <| And.intro places_app <| And.intro nest.eq_1 <| And.intro (@List.nil_append (AV × Nat)) <| And.intro (@List.cons_append (AV × Nat)) <| And.intro (@List.append_nil (AV × Nat)) <| And.intro (@List.length_cons AV) (@List.length_nil AV)) :=
  And.intro places_nil <| And.intro @places_one <| And.intro @places_two <| And.intro @places_shut <| And.intro places_app <| And.intro nest.eq_1 <| And.intro (@List.nil_append (AV × Nat)) <| And.intro (@List.cons_append (AV × Nat)) <| And.intro (@List.append_nil (AV × Nat)) <| And.intro (@List.length_cons AV) (@List.length_nil AV)
theorem kds : type_of% (And.intro @kids_isl <| And.intro @kids_ipt <| And.intro @kids_agg <| And.intro @kids_tup <| And.intro @kids_fn <| And.intro @kids_mapd @kids_fsl) :=
  And.intro @kids_isl <| And.intro @kids_ipt <| And.intro @kids_agg <| And.intro @kids_tup <| And.intro @kids_fn <| And.intro @kids_mapd @kids_fsl
theorem rns : type_of% (And.intro renL_nil <| And.intro renL_cons <| And.intro renL_app <| And.intro @renL_shut <| And.intro @ren_shut <| And.intro ren_fsl <| And.intro ren_agg <| And.intro ren_tup <| And.intro ren_fn <| And.intro ren_mapd <| And.intro ren_ref <| And.intro ren_msl <| And.intro ren_mref <| And.intro renTo_some <| And.intro renTo_none <| And.intro look_nil <| And.intro look_here @look_there) :=
  And.intro renL_nil <| And.intro renL_cons <| And.intro renL_app <| And.intro @renL_shut <| And.intro @ren_shut <| And.intro ren_fsl <| And.intro ren_agg <| And.intro ren_tup <| And.intro ren_fn <| And.intro ren_mapd <| And.intro ren_ref <| And.intro ren_msl <| And.intro ren_mref <| And.intro renTo_some <| And.intro renTo_none <| And.intro look_nil <| And.intro look_here @look_there
theorem rks : type_of% (And.intro rk_nil <| And.intro rk_ref <| And.intro rk_msl <| And.intro rk_mref <| And.intro rk_fn <| And.intro rk_agg <| And.intro rf_nil <| And.intro rf_ref <| And.intro rf_msl <| And.intro rf_mref <| And.intro @rf_one <| And.intro rf_app <| And.intro @rf_shut <| And.intro @rk_shut <| And.intro (@List.nil_append Nat) <| And.intro (@List.cons_append Nat) (@List.append_nil Nat)) :=
  And.intro rk_nil <| And.intro rk_ref <| And.intro rk_msl <| And.intro rk_mref <| And.intro rk_fn <| And.intro rk_agg <| And.intro rf_nil <| And.intro rf_ref <| And.intro rf_msl <| And.intro rf_mref <| And.intro @rf_one <| And.intro rf_app <| And.intro @rf_shut <| And.intro @rk_shut <| And.intro (@List.nil_append Nat) <| And.intro (@List.cons_append Nat) (@List.append_nil Nat)
theorem lks : type_of% (And.intro look_nil <| And.intro look_here @look_there) := And.intro look_nil <| And.intro look_here @look_there
end Go.Sim
