/- Functions of the seat, worked off from their code: chunk page2. Written by program (tools/mkp.py) from wip/fn. -/
import Derived.Test.YtimcmpceekbfjaaSimT
import Derived.Test.YtimcmpceekbfjaaSimY
import Derived.Test.YtimcmpceekbfjaaPpage1
set_option maxRecDepth 100000
set_option maxHeartbeats 40000000
set_option linter.unusedSimpArgs false
set_option linter.unusedVariables false
namespace Go.Proofs.Ytimcmpceekbfjaa
open Go Go.Sim
attribute [local irreducible] chk brX getX strX setX takeX normX fillX lendX partsX opsX callK lentK giveX adoptX resX joinX headX loopX seqK blkK regK finX exOps ex eqT
attribute [local simp] setR_int setR_bool setR_zero setR_succ repl_int repl_bool List.getElem?_cons_zero List.getElem?_cons_succ List.getElem?_nil w_i64 w_u64 w_u8 bAnd_u8 bOr_u8 bXor_u8 bAndNot_u8 bShl_u8 wrap_u8_range all_plain_int all_plain_bool all_plain_app pl_bool pl_int pl_str pl_nilp pl_nsl pl_nilI pl_nilF take_map_len AV.cells TI.isAgg
structure Tr where
  addr : Int
  mode : Int
  data : Int
  deriving DecidableEq
def Tr.enc (s : Tr) : List AV := [.int .i64 s.addr, .int .i64 s.mode, .int .i64 s.data]
theorem Tr.len (s : Tr) : s.enc.length = 3 := rfl
theorem Tr.flen (xs : List Tr) : (flat Tr.enc xs).length = xs.length * 3 := flt_len Tr.len xs
theorem Tr.pl (xs : List Tr) : (flat Tr.enc xs).all AV.plain = true := flt_plain (fun _ => rfl) xs
theorem Tr.rd {xs : List Tr} {i : Nat} (h : i < xs.length) : ((flat Tr.enc xs).drop (i * 3)).take 3 = [.int .i64 xs[i].addr, .int .i64 xs[i].mode, .int .i64 xs[i].data] := flt_rd Tr.len h
theorem Tr.g0 {xs : List Tr} {i : Nat} (h : i < xs.length) : (flat Tr.enc xs)[i * 3]? = some (.int .i64 xs[i].addr) := by simpa [Tr.enc] using flt_get (k := 0) Tr.len h (by omega)
theorem Tr.g1 {xs : List Tr} {i : Nat} (h : i < xs.length) : (flat Tr.enc xs)[i * 3 + 1]? = some (.int .i64 xs[i].mode) := flt_get Tr.len h (by omega)
theorem Tr.g2 {xs : List Tr} {i : Nat} (h : i < xs.length) : (flat Tr.enc xs)[i * 3 + 2]? = some (.int .i64 xs[i].data) := flt_get Tr.len h (by omega)
theorem Tr.put {xs : List Tr} {i : Nat} {a0 : Int} {a1 : Int} {a2 : Int} (h : i < xs.length) : setR (flat Tr.enc xs) (i * 3) [.int .i64 a0, .int .i64 a1, .int .i64 a2] = flat Tr.enc (xs.set i ⟨a0, a1, a2⟩) := flt_set Tr.len (y := ⟨a0, a1, a2⟩) h
theorem Tr.pute {xs : List Tr} {i : Nat} {y : Tr} (h : i < xs.length) : setR (flat Tr.enc xs) (i * 3) y.enc = flat Tr.enc (xs.set i y) := flt_set Tr.len h
theorem Tr.enc_eq {a0 : Int} {a1 : Int} {a2 : Int} : Tr.enc ⟨a0, a1, a2⟩ = [.int .i64 a0, .int .i64 a1, .int .i64 a2] := rfl
theorem Tr.s0 {xs : List Tr} {i : Nat} {v : Int} (h : i < xs.length) : setR (flat Tr.enc xs) (i * 3) [.int .i64 v] = flat Tr.enc (xs.set i { xs[i] with addr := v }) := by simpa using flt_setk (k := 0) Tr.len h (by simp) (show setR (Tr.enc xs[i]) 0 [.int .i64 v] = Tr.enc { xs[i] with addr := v } from rfl)
theorem Tr.s1 {xs : List Tr} {i : Nat} {v : Int} (h : i < xs.length) : setR (flat Tr.enc xs) (i * 3 + 1) [.int .i64 v] = flat Tr.enc (xs.set i { xs[i] with mode := v }) := flt_setk (k := 1) Tr.len h (by simp) (show setR (Tr.enc xs[i]) 1 [.int .i64 v] = Tr.enc { xs[i] with mode := v } from rfl)
theorem Tr.s2 {xs : List Tr} {i : Nat} {v : Int} (h : i < xs.length) : setR (flat Tr.enc xs) (i * 3 + 2) [.int .i64 v] = flat Tr.enc (xs.set i { xs[i] with data := v }) := flt_setk (k := 2) Tr.len h (by simp) (show setR (Tr.enc xs[i]) 2 [.int .i64 v] = Tr.enc { xs[i] with data := v } from rfl)
def Tr.none : Tr := ⟨0, 0, 0⟩
theorem Tr.zero (n : Nat) : repl n [.int .i64 0, .int .i64 0, .int .i64 0] = flat Tr.enc (List.replicate n Tr.none) := flt_repl n Tr.none [.int .i64 0, .int .i64 0, .int .i64 0] rfl
def Tr.ok (s : Tr) : Prop := (Lit.int .i64 s.addr).wf = true ∧ (Lit.int .i64 s.mode).wf = true ∧ (Lit.int .i64 s.data).wf = true
theorem Tr.of {n : Nat} {fs : List (Nat × Nat)} {cs : List AV} (h : zipShp (Shp L (n + 1)) fs cs) (hs : fs.map (dsc L) = [some (.int .i64), some (.int .i64), some (.int .i64)]) : ∃ s : Tr, cs = s.enc ∧ s.ok := by
  obtain ⟨x0, gs, r, rfl, w0, h, hs⟩ := zipd_int h hs
  obtain ⟨x1, gs, r, rfl, w1, h, hs⟩ := zipd_int h hs
  obtain ⟨x2, gs, r, rfl, w2, h, hs⟩ := zipd_int h hs
  obtain rfl := zipd_nil h hs
  exact ⟨⟨x0, x1, x2⟩, rfl, ⟨w0, w1, w2⟩⟩
theorem Tr.parts {n e sz bt : Nat} {fs : List (Nat × Nat)} {z : List AV} (hl : L e = some ⟨.strct fs, sz, bt, z⟩) (hs : fs.map (dsc L) = [some (.int .i64), some (.int .i64), some (.int .i64)]) (ps : List (List AV)) (h : ∀ p ∈ ps, Shp L (n + 2) e p) : ∃ ys : List Tr, ps.flatten = flat Tr.enc ys ∧ ys.length = ps.length ∧ ∀ y ∈ ys, y.ok :=
  parts_flat (fun p hp => Tr.of (shp_strct hl hp) hs) ps h

attribute [local simp] Tr.flen Tr.rd Tr.g0 Tr.g1 Tr.g2 Tr.put Tr.pute Tr.s0 Tr.s1 Tr.s2 Tr.zero Tr.enc

theorem t_CloneT (tag : Nat) (l : List Tr) (hl : l.length < 1000000) : callω L T 30 tag [.isl 3 l.length (flat Tr.enc l)] [none] = some (.fsl 3 l.length (flat Tr.enc l), [none]) := by
  refine (callω_law (L := L) (T := T) (show T 30 = some (.law (cloneLaw 3 24)) from rfl) (tag := tag)).trans ?_
  have := Tr.pl l
  have h2 := Tr.flen l
  unfold cloneLaw
  simp only [true_and]
  rw [if_pos ⟨by omega, by omega, this⟩]
theorem t_CloneT0 (tag : Nat) : callω L T 30 tag [.nsl] [none] = some (.fsl 3 0 [], [none]) := by
  refine (callω_law (L := L) (T := T) (show T 30 = some (.law (cloneLaw 3 24)) from rfl) (tag := tag)).trans ?_
  rfl
theorem t_CloneB (tag : Nat) (l : List Int) (hl : l.length < 1000000) : callω L T 33 tag [.isl 1 l.length (l.map (.int .u8))] [none] = some (.fsl 1 l.length (l.map (.int .u8)), [none]) := by
  refine (callω_law (L := L) (T := T) (show T 33 = some (.law (cloneLaw 1 1)) from rfl) (tag := tag)).trans ?_
  have : (l.map (AV.int .u8)).all AV.plain = true := by simp [AV.plain]
  unfold cloneLaw
  simp only [true_and]
  rw [if_pos ⟨by simp, by omega, this⟩]
theorem t_Mul1 (tag : Nat) (n : Int) (h : n = 8 ∨ n = 40) : callω L T 42 tag [.int .u64 1, .int .u64 n] [none, none] = some (.tup [.int .u64 0, .int .u64 n], [none, none]) := by
  rw [call_ex (show T 42 = some (.code a42) from rfl) rfl rfl]
  rcases h with rfl | rfl
  · (refine gox ?_)
    (refine finx ?_; try with_reducible rfl)
    first | rfl | kernel_rfl
  · (refine gox ?_)
    (refine finx ?_; try with_reducible rfl)
    first | rfl | kernel_rfl
theorem t_Mul (tag : Nat) (n : Int) (h : n = 8 ∨ n = 40) : callω L T 40 tag [.int .u64 1, .int .u64 n] [none, none] = some (.tup [.int .u64 0, .int .u64 n], [none, none]) := by
  rw [call_ex (show T 40 = some (.code a40) from rfl) rfl rfl]
  have t1 := t_Mul1 (tag + 1) n h
  (have c1 := t1; refine gox ?_; clear c1)
  (refine finx ?_; try with_reducible rfl)
theorem t_Repeat (tag : Nat) (b : Int) : callω L T 32 tag [.isl 1 1 [.int .u8 b], .int .i64 8] [none, none] = some (.fsl 1 8 ((List.replicate 8 b).map (.int .u8)), [none, none]) := by
  rw [call_ex (show T 32 = some (.code a32) from rfl) rfl rfl]
  have tm := t_Mul (tag + 1) 8 (Or.inl rfl)
  have w8 : IntKind.i64.wrap 8 = 8 := by decide
  have z8 : List.map (AV.int .u8) (List.replicate 8 0) = [.int .u8 0, .int .u8 0, .int .u8 0, .int .u8 0, .int .u8 0, .int .u8 0, .int .u8 0, .int .u8 0] := rfl
  (have fA := And.intro @w8 @z8; have c1 := tm; refine gox ?_; clear fA c1)
  refine Eq.trans (head_eq (env' := [(7, .msl 30 (tag, 2) 1 0 8), (8, .int .i64 1)]) (heap' := [(30, ⟨(tag, 2), [.int .u8 b, .int .u8 0, .int .u8 0, .int .u8 0, .int .u8 0, .int .u8 0, .int .u8 0, .int .u8 0]⟩)]) (by simp) (by simp) rfl) ?_
  refine Eq.trans headX_go ?_
  (have fA := And.intro @w8 @z8; refine gox ?_; clear fA)
  refine Eq.trans (head_eq (env' := [(7, .msl 30 (tag, 2) 1 0 8), (8, .int .i64 2)]) (heap' := [(30, ⟨(tag, 2), [.int .u8 b, .int .u8 b, .int .u8 0, .int .u8 0, .int .u8 0, .int .u8 0, .int .u8 0, .int .u8 0]⟩)]) (by simp) (by simp) rfl) ?_
  refine Eq.trans headX_go ?_
  (have fA := And.intro @w8 @z8; refine gox ?_; clear fA)
  refine Eq.trans (head_eq (env' := [(7, .msl 30 (tag, 2) 1 0 8), (8, .int .i64 4)]) (heap' := [(30, ⟨(tag, 2), [.int .u8 b, .int .u8 b, .int .u8 b, .int .u8 b, .int .u8 0, .int .u8 0, .int .u8 0, .int .u8 0]⟩)]) (by simp) (by simp) rfl) ?_
  refine Eq.trans headX_go ?_
  (have fA := And.intro @w8 @z8; refine gox ?_; clear fA)
  refine Eq.trans (head_eq (env' := [(7, .msl 30 (tag, 2) 1 0 8), (8, .int .i64 8)]) (heap' := [(30, ⟨(tag, 2), [.int .u8 b, .int .u8 b, .int .u8 b, .int .u8 b, .int .u8 b, .int .u8 b, .int .u8 b, .int .u8 b]⟩)]) (by simp) (by simp) rfl) ?_
  refine Eq.trans headX_go ?_
  (have fA := And.intro @w8 @z8; refine gox ?_; clear fA)
  (refine finx ?_; try with_reducible rfl)
  try rfl
theorem t_Tripled (tag : Nat) (l : List Tr) (hl : l.length < 1000000) : callω L T 36 tag [.isl 3 l.length (flat Tr.enc l)] [none] = some (.fsl 3 l.length (flat Tr.enc l), [none]) := by
  rw [call_ex (show T 36 = some (.code a36) from rfl) rfl rfl]
  (refine gox ?_)
  refine headX_for (fun _ (_ : Nat × Nat) => True) (fun k (x : Nat × Nat) => ⟨[(0, .isl 3 l.length (flat Tr.enc l)), (3, .msl 7 (tag, x.1) 3 0 k), (4, .int .i64 k)], [(7, ⟨(tag, x.1), flat Tr.enc (l.take k)⟩)], x.2, tag⟩) l.length _ ?_ ?_ (1 + 1, 1 + 1 + 1) trivial
  · rintro k ⟨g, nx⟩ hk - ih
    have hl2 : (flat Tr.enc (l.take k)).length = k * 3 := by rw [Tr.flen, List.length_take, Nat.min_eq_left (by omega)]
    have hg : ((flat Tr.enc l).drop (k * 3)).take 3 = l[k].enc := by rw [Tr.rd hk]; rfl
    have ha : flat Tr.enc (l.take k) ++ l[k].enc = flat Tr.enc (l.take (k + 1)) := by unfold flat; rw [List.take_add_one, List.getElem?_eq_getElem hk, List.map_append, List.flatten_append]; simp
    have hfl := Tr.flen l
    dsimp only at ih ⊢
    refine Eq.trans ?_ (ih (nx + 1, nx + 1 + 1) trivial)
    generalize flat Tr.enc (l.take k) = ca at hl2 ha ⊢
    generalize flat Tr.enc l = cx at hg hfl ⊢
    rw [show l[k].enc = [.int .i64 l[k].addr, .int .i64 l[k].mode, .int .i64 l[k].data] from rfl] at hg ha
    (have fA := And.intro @hl2 (And.intro @hg (And.intro @ha (@List.drop_zero AV))); refine gox ?_; clear fA)
    refine head_eq ?_ ?_ rfl
    · simp [wrap_succ hk (by omega)]
    · simp [ha]
  · rintro ⟨g, nx⟩ -
    have hl2 : (flat Tr.enc (l.take l.length)).length = l.length * 3 := by rw [Tr.flen, List.length_take, Nat.min_eq_left (by omega)]
    have hp := Tr.pl (l.take l.length)
    have he : flat Tr.enc (l.take l.length) = flat Tr.enc l := by rw [List.take_length]
    dsimp only
    rw [← he]
    generalize flat Tr.enc (l.take l.length) = ca at hl2 hp ⊢
    (have fA := And.intro @hl2 (@List.drop_zero AV); refine gox ?_; clear fA)
    (have fA := And.intro @hl2 (And.intro @hp (@List.drop_zero AV)); refine finx ?_; clear fA; try with_reducible rfl)
theorem t_SameTriplet1 (tag : Nat) (a b : Tr) : callω L T 14 tag [.agg a.enc, .agg b.enc] [none, none] = some (.bool (decide (a = b)), [none, none]) := by
  rw [call_ex (show T 14 = some (.code a14) from rfl) rfl rfl]
  obtain ⟨a1, a2, a3⟩ := a
  obtain ⟨b1, b2, b3⟩ := b
  by_cases h1 : a1 = b1
  · by_cases h2 : a2 = b2
    · (refine gox ?_)
      (refine finx ?_; try with_reducible rfl)
      simp [h1, h2]
    · (refine gox ?_)
      (refine finx ?_; try with_reducible rfl)
      simp [h1, h2]
  · (refine gox ?_)
    (refine finx ?_; try with_reducible rfl)
    simp [h1]
theorem t_SameTriplet1_ne (tag : Nat) {a b : Tr} (h : ¬ a = b) : callω L T 14 tag [.agg a.enc, .agg b.enc] [none, none] = some (.bool false, [none, none]) := by
  have := t_SameTriplet1 tag a b
  rwa [decide_eq_false h] at this
theorem t_SameTriplet1_eq (tag : Nat) (a : Tr) : callω L T 14 tag [.agg a.enc, .agg a.enc] [none, none] = some (.bool true, [none, none]) := by
  have := t_SameTriplet1 tag a a
  rwa [decide_eq_true rfl] at this
theorem list_ne_at {α : Type} {a b : List α} {k : Nat} (ha : k < a.length) (hb : k < b.length) (h : ¬ a[k] = b[k]) : ¬ a = b := fun e => h (by subst e; rfl)
theorem list_eq_all {α : Type} {a b : List α} (hl : a.length = b.length) (h : ∀ k (ha : k < a.length) (hb : k < b.length), k < a.length → a[k] = b[k]) : a = b :=
  List.ext_getElem hl fun i h1 h2 => h i h1 h2 h1
theorem t_SameTriplets (tag : Nat) (a b : List Tr) (hl : a.length < 1000000) : callω L T 21 tag [.isl 3 a.length (flat Tr.enc a), .isl 3 b.length (flat Tr.enc b)] [none, none] = some (.bool (decide (a = b)), [none, none]) := by
  rw [call_ex (show T 21 = some (.code a21) from rfl) rfl rfl]
  by_cases hab : a.length = b.length
  · (refine gox ?_)
    refine headX_for (fun k (_ : Unit) => ∀ j (ha : j < a.length) (hb : j < b.length), j < k → a[j] = b[j]) (fun k _ => ⟨[(0, .isl 3 a.length (flat Tr.enc a)), (1, .isl 3 b.length (flat Tr.enc b)), (5, .int .i64 k)], [], 1, tag⟩) a.length _ ?_ ?_ () (fun j _ _ hj => absurd hj (by omega))
    · intro k _ hk hI ih
      have hkb : k < b.length := by omega
      have hga : ((flat Tr.enc a).drop (k * 3)).take 3 = a[k].enc := by rw [Tr.rd hk]; rfl
      have hgb : ((flat Tr.enc b).drop (k * 3)).take 3 = b[k].enc := by rw [Tr.rd hkb]; rfl
      have la := Tr.flen a
      have lb := Tr.flen b
      by_cases q : a[k] = b[k]
      · have ts := t_SameTriplet1_eq (tag + 1) b[k]
        rw [q] at hga
        refine Eq.trans ?_ (ih () (fun j ha hb hj => ?_))
        · clear hI ih q
          generalize b[k] = x at *
          generalize flat Tr.enc a = ca at *
          generalize flat Tr.enc b = cb at *
          (have fA := And.intro @hga @hgb; have c1 := ts; refine gox ?_; clear fA c1)
          refine head_eq ?_ rfl rfl
          simp [wrap_succ hk (by omega)]
        · by_cases hjk : j = k
          · subst hjk; exact q
          · exact hI j ha hb (by omega)
      · have ts := t_SameTriplet1_ne (tag + 1) q
        rw [decide_eq_false (list_ne_at hk hkb q)]
        clear hI ih q
        generalize b[k] = x at *
        generalize a[k] = y at *
        generalize flat Tr.enc a = ca at *
        generalize flat Tr.enc b = cb at *
        (have fA := And.intro @hga @hgb; have c1 := ts; refine gox ?_; clear fA c1)
        (refine finx ?_; try with_reducible rfl)
        try rfl
    · intro _ hI
      rw [decide_eq_true (list_eq_all hab (fun k ha hb hk => hI k ha hb hk))]
      (refine gox ?_)
      (refine finx ?_; try with_reducible rfl)
      try rfl
  · rw [decide_eq_false (fun e => hab (by rw [e]))]
    (refine gox ?_)
    (refine finx ?_; try with_reducible rfl)
    try rfl
theorem eqTr (a b : Tr) : eqT L 20 42 (.agg a.enc) (.agg b.enc) = some (decide (a = b)) := by
  obtain ⟨a1, a2, a3⟩ := a
  obtain ⟨b1, b2, b3⟩ := b
  have e : ∀ x y : Int, eqT L 19 3 (.int .i64 x) (.int .i64 y) = some (decide (x = y)) := fun x y => by
    unfold eqT
    show (if IntKind.i64 = .i64 then some (x == y) else none) = _
    rw [if_pos rfl, int_beq]
  unfold eqT
  show eqFs L (eqT L 19) [.int .i64 a1, .int .i64 a2, .int .i64 a3] [.int .i64 b1, .int .i64 b2, .int .i64 b3] [(0, 3), (1, 3), (2, 3)] = _
  by_cases h1 : a1 = b1 <;> by_cases h2 : a2 = b2 <;> by_cases h3 : a3 = b3 <;> simp [eqFs, rdCells, TI.isAgg, e, h1, h2, h3]
theorem eqTr_neq (a b : Tr) : aBin L 42 .neq (.agg a.enc) (.agg b.enc) = some (.bool (!decide (a = b))) := by
  show (eqT L 20 42 (.agg a.enc) (.agg b.enc)).map _ = _
  rw [eqTr]; rfl
theorem t_EqualT (tag : Nat) (a b : List Tr) (hl : a.length < 1000000) : callω L T 31 tag [.isl 3 a.length (flat Tr.enc a), .isl 3 b.length (flat Tr.enc b)] [none, none] = some (.bool (decide (a = b)), [none, none]) := by
  rw [call_ex (show T 31 = some (.code a31) from rfl) rfl rfl]
  by_cases hab : a.length = b.length
  · (refine gox ?_)
    refine headX_for (fun k (_ : Unit) => ∀ j (ha : j < a.length) (hb : j < b.length), j < k → a[j] = b[j]) (fun k _ => ⟨[(0, .isl 3 a.length (flat Tr.enc a)), (1, .isl 3 b.length (flat Tr.enc b)), (12, .int .i64 a.length), (13, .int .i64 k)], [], 1, tag⟩) a.length _ ?_ ?_ () (fun j _ _ hj => absurd hj (by omega))
    · intro k _ hk hI ih
      have hkb : k < b.length := by omega
      have hga : ((flat Tr.enc a).drop (k * 3)).take 3 = a[k].enc := by rw [Tr.rd hk]; rfl
      have hgb : ((flat Tr.enc b).drop (k * 3)).take 3 = b[k].enc := by rw [Tr.rd hkb]; rfl
      have la := Tr.flen a
      have lb := Tr.flen b
      by_cases q : a[k] = b[k]
      · rw [q] at hga
        refine Eq.trans ?_ (ih () (fun j ha hb hj => ?_))
        · clear hI ih q
          have e1 := eqTr_neq b[k] b[k]
          rw [decide_eq_true rfl] at e1
          generalize b[k] = x at *
          generalize flat Tr.enc a = ca at *
          generalize flat Tr.enc b = cb at *
          (have fA := And.intro @hga @hgb; refine gox ?_; clear fA)
          refine head_eq ?_ rfl rfl
          simp [wrap_succ hk (by omega)]
        · by_cases hjk : j = k
          · subst hjk; exact q
          · exact hI j ha hb (by omega)
      · rw [decide_eq_false (list_ne_at hk hkb q)]
        have e1 := eqTr_neq a[k] b[k]
        rw [decide_eq_false q] at e1
        clear hI ih q
        generalize b[k] = x at *
        generalize a[k] = y at *
        generalize flat Tr.enc a = ca at *
        generalize flat Tr.enc b = cb at *
        (have fA := And.intro @hga @hgb; refine gox ?_; clear fA)
        (refine finx ?_; try with_reducible rfl)
        try rfl
    · intro _ hI
      rw [decide_eq_true (list_eq_all hab (fun k ha hb hk => hI k ha hb hk))]
      (refine gox ?_)
      (refine finx ?_; try with_reducible rfl)
      try rfl
  · rw [decide_eq_false (fun e => hab (by rw [e]))]
    (refine gox ?_)
    (refine finx ?_; try with_reducible rfl)
    try rfl

end Go.Proofs.Ytimcmpceekbfjaa
