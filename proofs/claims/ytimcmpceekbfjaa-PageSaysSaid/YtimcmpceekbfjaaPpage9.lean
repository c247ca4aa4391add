/- Functions of the seat, worked off from their code: chunk page9. Written by program (tools/mkp.py) from wip/fn. -/
import Derived.Test.YtimcmpceekbfjaaSimT
import Derived.Test.YtimcmpceekbfjaaSimY
import Derived.Test.YtimcmpceekbfjaaPpage6
set_option maxRecDepth 100000
set_option maxHeartbeats 40000000
set_option linter.unusedSimpArgs false
set_option linter.unusedVariables false
namespace Go.Proofs.Ytimcmpceekbfjaa
open Go Go.Sim
attribute [local irreducible] chk brX getX strX setX takeX normX fillX lendX partsX opsX callK lentK giveX adoptX resX joinX headX loopX seqK blkK regK finX exOps ex eqT
attribute [local simp] setR_int setR_bool setR_zero setR_succ repl_int repl_bool List.getElem?_cons_zero List.getElem?_cons_succ List.getElem?_nil w_i64 w_u64 w_u8 bAnd_u8 bOr_u8 bXor_u8 bAndNot_u8 bShl_u8 wrap_u8_range all_plain_int all_plain_bool all_plain_app pl_bool pl_int pl_str pl_nilp pl_nsl pl_nilI pl_nilF take_map_len AV.cells TI.isAgg
attribute [local simp] Tr.flen Tr.rd Tr.g0 Tr.g1 Tr.g2 Tr.put Tr.pute Tr.s0 Tr.s1 Tr.s2 Tr.zero Tr.enc Hd.flen Hd.rd Hd.g0 Hd.g1 Hd.g2 Hd.g3 Hd.g4 Hd.g5 Hd.g6 Hd.g7 Hd.g8 Hd.g9 Hd.g10 Hd.g11 Hd.g12 Hd.g13 Hd.g14 Hd.put Hd.pute Hd.s0 Hd.s1 Hd.s2 Hd.s3 Hd.s4 Hd.s5 Hd.s6 Hd.s7 Hd.s8 Hd.s9 Hd.s10 Hd.s11 Hd.s12 Hd.s13 Hd.s14 Hd.zero Hd.enc

theorem t_SamePlace (tag : Nat) (a1 a2 a3 b1 b2 b3 : Int) : callω L T 35 tag [.agg [.int .i64 a1, .int .i64 a2, .int .i64 a3], .agg [.int .i64 b1, .int .i64 b2, .int .i64 b3]] [none, none] = some (.bool (decide (a1 = b1 ∧ a2 = b2 ∧ a3 = b3)), [none, none]) := by
  rw [call_ex (show T 35 = some (.code a35) from rfl) rfl rfl]
  by_cases h1 : a1 = b1
  · by_cases h2 : a2 = b2
    · (refine gox ?_)
      (refine finx ?_; try with_reducible rfl)
      simp [h1, h2]
    · (refine gox ?_)
      (refine finx ?_; try with_reducible rfl)
      simp [h1, h2]
  · (refine gox ?_)
    (refine finx ?_; try with_reducible rfl)
    simp [h1]
def Hd.cs (h : Hd) : List Bool := [h.c0, h.c1, h.c2, h.c3, h.c4, h.c5, h.c6, h.c7, h.c8, h.c9, h.c10]
theorem Hd.cs_at (h : Hd) {k : Nat} (hk : k < 11) : h.enc[3 + k]? = some (.bool (h.cs.getD k false)) := by
  match k, hk with
  | 0, _ | 1, _ | 2, _ | 3, _ | 4, _ | 5, _ | 6, _ | 7, _ | 8, _ | 9, _ | 10, _ => rfl
theorem Hd.eq_of {a b : Hd} (h1 : a.mag = b.mag) (h2 : a.page = b.page) (h3 : a.sub = b.sub) (hc : ∀ k, k < 11 → a.cs.getD k false = b.cs.getD k false) (h4 : a.opt = b.opt) : a = b := by
  have q := fun k hk => hc k hk
  obtain ⟨⟩ := a
  obtain ⟨⟩ := b
  simp only [Hd.mk.injEq] at *
  exact ⟨h1, h2, h3, q 0 (by omega), q 1 (by omega), q 2 (by omega), q 3 (by omega), q 4 (by omega), q 5 (by omega), q 6 (by omega), q 7 (by omega), q 8 (by omega), q 9 (by omega), q 10 (by omega), h4⟩
theorem Hd.pl_at (h : Hd) : h.enc.take 3 = [.int .i64 h.mag, .int .i64 h.page, .int .i64 h.sub] := rfl
theorem Hd.opt_at (h : Hd) : h.enc[14]? = some (.int .i64 h.opt) := rfl
attribute [local irreducible] Hd.enc
theorem t_SameHead (tag : Nat) (a b : Hd) : callω L T 22 tag [.agg a.enc, .agg b.enc] [none, none] = some (.bool (decide (a = b)), [none, none]) := by
  rw [call_ex (show T 22 = some (.code a22) from rfl) rfl rfl]
  have la := Hd.len a
  have lb := Hd.len b
  have pa := Hd.pl_at a
  have pb := Hd.pl_at b
  have oa := Hd.opt_at a
  have ob := Hd.opt_at b
  have ts := t_SamePlace (tag + 1) a.mag a.page a.sub b.mag b.page b.sub
  (have fA := And.intro @la @lb; refine gox ?_; clear fA)
  refine headX_for (fun k (_ : Unit) => ∀ j, j < k → a.cs.getD j false = b.cs.getD j false) (fun k _ => ⟨[(2, .ref 2 (tag, 1) 0), (3, .ref 3 (tag, 1 + 1) 0), (5, .int .i64 k)], [(2, ⟨(tag, 1), a.enc⟩), (3, ⟨(tag, 1 + 1), b.enc⟩)], 1 + 1 + 1, tag⟩) 11 _ ?_ ?_ () (fun j hj => absurd hj (by omega))
  · intro k _ hk hI ih
    have ca := Hd.cs_at a hk
    have cb := Hd.cs_at b hk
    by_cases q : a.cs.getD k false = b.cs.getD k false
    · refine Eq.trans ?_ (ih () (fun j hj => ?_))
      · have e : (a.cs.getD k false == b.cs.getD k false) = true := by rw [q]; exact beq_self_eq_true _
        clear hI ih q ts
        generalize a.cs.getD k false = x at *
        generalize b.cs.getD k false = y at *
        (have fA := And.intro @ca @cb; refine gox ?_; clear fA)
        refine head_eq ?_ rfl rfl
        simp [wrap_succ hk (by omega)]
      · by_cases hjk : j = k
        · subst hjk; exact q
        · exact hI j (by omega)
    · rw [decide_eq_false (fun e => q (by rw [e]))]
      have e : (a.cs.getD k false == b.cs.getD k false) = false := by rw [beq_eq_false_iff_ne]; exact q
      clear hI ih q ts
      generalize a.cs.getD k false = x at *
      generalize b.cs.getD k false = y at *
      (have fA := And.intro @ca @cb; refine gox ?_; clear fA)
      (refine finx ?_; try with_reducible rfl)
      try rfl
  · intro _ hI
    by_cases hp : a.mag = b.mag ∧ a.page = b.page ∧ a.sub = b.sub
    · rw [decide_eq_true hp] at ts
      by_cases ho : a.opt = b.opt
      · rw [decide_eq_true (Hd.eq_of hp.1 hp.2.1 hp.2.2 hI ho)]
        (have fA := And.intro @pa (And.intro @pb (And.intro @oa (And.intro @ob (And.intro @la @lb)))); have c1 := ts; refine gox ?_; clear fA c1)
        (refine finx ?_; try with_reducible rfl)
        simp [ho]
      · rw [decide_eq_false (fun e => ho (by rw [e]))]
        (have fA := And.intro @pa (And.intro @pb (And.intro @oa (And.intro @ob (And.intro @la @lb)))); have c1 := ts; refine gox ?_; clear fA c1)
        (refine finx ?_; try with_reducible rfl)
        simp [ho]
    · rw [decide_eq_false hp] at ts
      rw [decide_eq_false (fun e => hp (by rw [e]; exact ⟨rfl, rfl, rfl⟩))]
      (have fA := And.intro @pa (And.intro @pb (And.intro @oa (And.intro @ob (And.intro @la @lb)))); have c1 := ts; refine gox ?_; clear fA c1)
      (refine finx ?_; try with_reducible rfl)
      try rfl
def tri (l : List Int) (k : Nat) : Int × Int × Int := (l.getD (k * 3) 0, l.getD (k * 3 + 1) 0, l.getD (k * 3 + 2) 0)
theorem tri_at {l : List Int} {k : Nat} (h : k * 3 + 3 ≤ l.length) : ((l.map (AV.int .i64)).drop (k * 3)).take 3 = [.int .i64 (tri l k).1, .int .i64 (tri l k).2.1, .int .i64 (tri l k).2.2] := by
  have e0 : l[k * 3]? = some l[k * 3] := List.getElem?_eq_getElem (by omega)
  have e1 : l[k * 3 + 1]? = some l[k * 3 + 1] := List.getElem?_eq_getElem (by omega)
  have e2 : l[k * 3 + 2]? = some l[k * 3 + 2] := List.getElem?_eq_getElem (by omega)
  rw [← List.map_drop, List.drop_eq_getElem_cons (show k * 3 < l.length by omega), List.drop_eq_getElem_cons (show k * 3 + 1 < l.length by omega), List.drop_eq_getElem_cons (show k * 3 + 1 + 1 < l.length by omega)]
  simp only [List.map_cons, List.take_succ_cons, List.take_zero, tri, List.getD_eq_getElem?_getD, e0, e1, e2, Option.getD_some]
theorem tri_ext {a b : List Int} {n : Nat} (ha : a.length = n * 3) (hb : b.length = n * 3) (h : ∀ k, k < n → tri a k = tri b k) : a = b := by
  refine List.ext_getElem (by omega) fun i h1 h2 => ?_
  have hk : i / 3 < n := by omega
  have e := h (i / 3) hk
  simp only [tri, Prod.mk.injEq, List.getD_eq_getElem?_getD] at e
  have : i = i / 3 * 3 ∨ i = i / 3 * 3 + 1 ∨ i = i / 3 * 3 + 2 := by omega
  have g := fun (l : List Int) (hl : i < l.length) => List.getElem?_eq_getElem hl
  rcases this with q | q | q
  · have e := e.1
    rw [← q, g a h1, g b h2] at e
    exact e
  · have e := e.2.1
    rw [← q, g a h1, g b h2] at e
    exact e
  · have e := e.2.2
    rw [← q, g a h1, g b h2] at e
    exact e
theorem t_SameLinks (tag : Nat) (a b : List Int) (ha : a.length = 18) (hb : b.length = 18) : callω L T 37 tag [.agg (a.map (.int .i64)), .agg (b.map (.int .i64))] [none, none] = some (.bool (decide (a = b)), [none, none]) := by
  rw [call_ex (show T 37 = some (.code a37) from rfl) rfl rfl]
  have la : (a.map (AV.int .i64)).length = 18 := by simp [ha]
  have lb : (b.map (AV.int .i64)).length = 18 := by simp [hb]
  have ta := fun k hk => tri_at (l := a) (k := k) hk
  have tb := fun k hk => tri_at (l := b) (k := k) hk
  (have fA := And.intro @la @lb; refine gox ?_; clear fA)
  refine headX_for (fun k (_ : Unit) => ∀ j, j < k → tri a j = tri b j) (fun k _ => ⟨[(2, .ref 2 (tag, 1) 0), (3, .ref 3 (tag, 1 + 1) 0), (5, .int .i64 k)], [(2, ⟨(tag, 1), a.map (.int .i64)⟩), (3, ⟨(tag, 1 + 1), b.map (.int .i64)⟩)], 1 + 1 + 1, tag⟩) 6 _ ?_ ?_ () (fun j hj => absurd hj (by omega))
  · intro k _ hk hI ih
    have ca := ta k (by omega)
    have cb := tb k (by omega)
    have ts := t_SamePlace (tag + 1) (tri a k).1 (tri a k).2.1 (tri a k).2.2 (tri b k).1 (tri b k).2.1 (tri b k).2.2
    by_cases q : tri a k = tri b k
    · refine Eq.trans ?_ (ih () (fun j hj => ?_))
      · rw [decide_eq_true (by rw [q]; exact ⟨rfl, rfl, rfl⟩)] at ts
        clear hI ih q ta tb
        generalize (tri a k) = x at *
        generalize (tri b k) = y at *
        generalize a.map (AV.int .i64) = ax at *
        generalize b.map (AV.int .i64) = bx at *
        (have fA := And.intro @ca (And.intro @cb (And.intro @la @lb)); have c1 := ts; refine gox ?_; clear fA c1)
        refine head_eq ?_ rfl rfl
        simp [wrap_succ hk (by omega)]
      · by_cases hjk : j = k
        · subst hjk; exact q
        · exact hI j (by omega)
    · rw [decide_eq_false (fun e => q (by rw [e]))]
      rw [decide_eq_false (fun e => q (Prod.ext e.1 (Prod.ext e.2.1 e.2.2)))] at ts
      clear hI ih q ta tb
      generalize (tri a k) = x at *
      generalize (tri b k) = y at *
      generalize a.map (AV.int .i64) = ax at *
      generalize b.map (AV.int .i64) = bx at *
      (have fA := And.intro @ca (And.intro @cb (And.intro @la @lb)); have c1 := ts; refine gox ?_; clear fA c1)
      (refine finx ?_; try with_reducible rfl)
      try rfl
  · intro _ hI
    rw [decide_eq_true (tri_ext (n := 6) (by omega) (by omega) hI)]
    (refine gox ?_)
    (refine finx ?_; try with_reducible rfl)
    try rfl
def pgP (a b : Pg) : Prop := a.hd = b.hd ∧ a.rows = b.rows ∧ a.there = b.there ∧ a.extra = b.extra ∧ a.links = b.links ∧ a.linked = b.linked ∧ a.dflt = b.dflt
instance (a b : Pg) : Decidable (pgP a b) := by unfold pgP; exact inferInstance
theorem pgP_self (a : Pg) : pgP a a := ⟨rfl, rfl, rfl, rfl, rfl, rfl, rfl⟩
theorem there_ext {a b : List Bool} {n : Nat} (ha : a.length = n) (hb : b.length = n) (h : ∀ k, k < n → a.getD k false = b.getD k false) : a = b := by
  refine List.ext_getElem (by omega) fun i h1 h2 => ?_
  have e := h i (by omega)
  simpa [List.getD_eq_getElem?_getD, h1, h2] using e
theorem Pg.rows_ext {a b : Pg} (ha : a.Ok) (hb : b.Ok) (h : ∀ r, r < 25 → ∀ k, k < 40 → (a.row r).getD k 0 = (b.row r).getD k 0) : a.rows = b.rows := by
  refine List.ext_getElem (by rw [ha.rows, hb.rows]) fun i h1 h2 => ?_
  have h1' := ha.rows
  have e := h (i / 40) (by omega) (i % 40) (by omega)
  have q : ∀ (p : Pg) (hi : i < p.rows.length), (p.row (i / 40)).getD (i % 40) 0 = p.rows[i] := by
    intro p hi
    rw [Pg.row, List.getD_eq_getElem?_getD, List.getElem?_take_of_lt (by omega), List.getElem?_drop, show i / 40 * 40 + i % 40 = i by omega, List.getElem?_eq_getElem hi]
    rfl
  rw [q a h1, q b h2] at e
  exact e
def thD (p : Pg) (k : Nat) : Bool := p.is k
theorem links_at {p : Pg} {x : AV} (h : p.Ok) : ((p.enc x).drop 1041).take 18 = p.links.map (.int .i64) := by
  have e := h.links
  rw [Pg.post_at h, Pg.post, List.take_append_of_le_length (by simp [e]), List.take_of_length_le (by simp [e])]
theorem linked_at {p : Pg} {x : AV} (h : p.Ok) : (p.enc x)[1059]? = some (.bool p.linked) := by
  have e := congrArg (fun l => l[18]?) (Pg.post_at (x := x) h)
  simp only [List.getElem?_drop, Nat.reduceAdd] at e
  rw [e, Pg.post, List.getElem?_append_right (by simp [h.links])]
  simp [h.links]
theorem dflt_at {p : Pg} {x : AV} (h : p.Ok) : (p.enc x)[1060]? = some (.int .i64 p.dflt) := by
  have e := congrArg (fun l => l[19]?) (Pg.post_at (x := x) h)
  simp only [List.getElem?_drop, Nat.reduceAdd] at e
  rw [e, Pg.post, List.getElem?_append_right (by simp [h.links])]
  simp [h.links]
theorem post_lk {p : Pg} (h : p.Ok) : p.post.take 18 = p.links.map (.int .i64) := by rw [← Pg.post_at (x := .nsl) h]; exact links_at h
theorem pgs2 : type_of% (And.intro @links_at <| And.intro @post_lk <| And.intro @linked_at @dflt_at) := And.intro @links_at <| And.intro @post_lk <| And.intro @linked_at @dflt_at
theorem int_ne_f {a b : Int} (h : ¬ a = b) : (a == b) = false := by rw [beq_eq_false_iff_ne]; exact h
theorem bool_ne_f {a b : Bool} (h : ¬ a = b) : (a == b) = false := by rw [beq_eq_false_iff_ne]; exact h
theorem t_SameTripletsX (tag : Nat) {x y : AV} {a b : List Tr} (hx : ExOK x a) (hy : ExOK y b) (hl : a.length < 1000000) : callω L T 21 tag [x, y] [none, none] = some (.bool (decide (a = b)), [none, none]) := by
  rcases hx with rfl | ⟨rfl, rfl⟩
  · rcases hy with rfl | ⟨rfl, rfl⟩
    · exact t_SameTriplets tag a b hl
    · by_cases ha : a.length = 0
      · obtain rfl := List.eq_nil_of_length_eq_zero ha
        rw [call_ex (show T 21 = some (.code a21) from rfl) rfl rfl]
        (refine gox ?_)
        refine Eq.trans headX_go ?_
        (refine gox ?_)
        (refine finx ?_; try with_reducible rfl)
        try rfl
      · rw [decide_eq_false (fun e => ha (by rw [e]; rfl))]
        rw [call_ex (show T 21 = some (.code a21) from rfl) rfl rfl]
        (refine gox ?_)
        (refine finx ?_; try with_reducible rfl)
        try rfl
  · rcases hy with rfl | ⟨rfl, rfl⟩
    · by_cases hb : b.length = 0
      · obtain rfl := List.eq_nil_of_length_eq_zero hb
        rw [call_ex (show T 21 = some (.code a21) from rfl) rfl rfl]
        (refine gox ?_)
        refine Eq.trans headX_go ?_
        (refine gox ?_)
        (refine finx ?_; try with_reducible rfl)
        try rfl
      · rw [decide_eq_false (fun e => hb (by rw [← e]; rfl))]
        rw [call_ex (show T 21 = some (.code a21) from rfl) rfl rfl]
        (refine gox ?_)
        (refine finx ?_; try with_reducible rfl)
        try rfl
    · rw [call_ex (show T 21 = some (.code a21) from rfl) rfl rfl]
      (refine gox ?_)
      refine Eq.trans headX_go ?_
      (refine gox ?_)
      (refine finx ?_; try with_reducible rfl)
      try rfl
attribute [local irreducible] Pg.enc
theorem t_SamePage (tag : Nat) (a b : Pg) (ha : a.Ok) (hb : b.Ok) {x y : AV} (hx : ExOK x a.extra) (hy : ExOK y b.extra) (hl : a.extra.length < 1000000) : callω L T 24 tag [.agg (a.enc x), .agg (b.enc y)] [none, none] = some (.bool (decide (pgP a b)), [none, none]) := by
  rw [call_ex (show T 24 = some (.code a24) from rfl) rfl rfl]
  (have fA := @pgs; refine gox ?_; clear fA)
  refine headX_for (fun i (_ : Unit) => (∀ j, j < i → a.is j = b.is j) ∧ (∀ j, j < i → ∀ k, k < 40 → (a.row j).getD k 0 = (b.row j).getD k 0)) (fun i _ => ⟨[(2, .ref 2 (tag, 1) 0), (3, .ref 3 (tag, 1 + 1) 0), (5, .int .i64 i)], [(2, ⟨(tag, 1), a.enc x⟩), (3, ⟨(tag, 1 + 1), b.enc y⟩)], 1 + 1 + 1, tag⟩) 25 _ ?_ ?_ () ⟨fun j hj => absurd hj (by omega), fun j hj => absurd hj (by omega)⟩
  · rintro i _ hi ⟨hI, hR⟩ ih
    by_cases q : a.is i = b.is i
    · have e : (a.is i == b.is i) = true := by rw [q]; exact beq_self_eq_true _
      have ca := Pg.there_at (x := x) ha hi
      have cb := Pg.there_at (x := y) hb hi
      (have fA := And.intro @ca (And.intro @cb @pgs); refine gox ?_; clear fA)
      refine headX_for (fun k (_ : Unit) => ∀ m, m < k → (a.row i).getD m 0 = (b.row i).getD m 0) (fun k _ => ⟨[(2, .ref 2 (tag, 1) 0), (3, .ref 3 (tag, 1 + 1) 0), (5, .int .i64 i), (6, .int .i64 k)], [(2, ⟨(tag, 1), a.enc x⟩), (3, ⟨(tag, 1 + 1), b.enc y⟩)], 1 + 1 + 1, tag⟩) 40 _ ?_ ?_ () (fun j hj => absurd hj (by omega))
      · intro k _ hk hJ ih2
        have ra := Pg.cell_at (x := x) ha hi hk
        have rb := Pg.cell_at (x := y) hb hi hk
        by_cases q2 : (a.row i).getD k 0 = (b.row i).getD k 0
        · refine Eq.trans ?_ (ih2 () (fun j hj => ?_))
          · clear hI hR ih hJ ih2 q e ca cb
            generalize (a.row i).getD k 0 = u at *
            generalize (b.row i).getD k 0 = v at *
            (have fA := And.intro @ra (And.intro @rb @pgs); refine gox ?_; clear fA)
            refine head_eq ?_ rfl rfl
            simp [wrap_succ hk (by omega)]
          · by_cases hjk : j = k
            · subst hjk; exact q2
            · exact hJ j (by omega)
        · rw [decide_eq_false (fun e => q2 (by rw [Pg.row, Pg.row, e.2.1]))]
          clear hI hR ih hJ ih2 q e ca cb
          generalize (a.row i).getD k 0 = u at *
          generalize (b.row i).getD k 0 = v at *
          (have fA := And.intro @ra (And.intro @rb @pgs); refine gox ?_; clear fA)
          (refine finx ?_; try with_reducible rfl)
          try rfl
      · intro _ hJ
        refine Eq.trans ?_ (ih () ⟨fun j hj => ?_, fun j hj => ?_⟩)
        · clear hI hR ih hJ q e ca cb
          (have fA := @pgs; refine gox ?_; clear fA)
          refine head_eq ?_ rfl rfl
          simp [wrap_succ hi (by omega)]
        · by_cases hji : j = i
          · subst hji; exact q
          · exact hI j (by omega)
        · by_cases hji : j = i
          · subst hji; exact hJ
          · exact hR j (by omega)
    · rw [decide_eq_false (fun e => q (by rw [Pg.is, Pg.is, e.2.2.1]))]
      have e := bool_ne_f q
      have ca := Pg.there_at (x := x) ha hi
      have cb := Pg.there_at (x := y) hb hi
      clear ih hI hR q
      generalize a.is i = u at *
      generalize b.is i = v at *
      (have fA := And.intro @ca (And.intro @cb @pgs); refine gox ?_; clear fA)
      (refine finx ?_; try with_reducible rfl)
      try rfl
  · rintro _ ⟨hI, hR⟩
    have ht := there_ext ha.there hb.there hI
    have hrw := Pg.rows_ext ha hb hR
    have t1 := t_SameHead (tag + 1) a.hd b.hd
    have t2 := t_SameTripletsX (tag + 1) hx hy hl
    have t3 := t_SameLinks (tag + 1) a.links b.links ha.links hb.links
    have la := Hd.len a.hd
    have lb := Hd.len b.hd
    have hp : pgP a b ↔ (a.hd = b.hd ∧ a.extra = b.extra ∧ a.links = b.links ∧ a.linked = b.linked ∧ a.dflt = b.dflt) := by simp [pgP, ht, hrw]
    clear hI hR
    by_cases h1 : a.hd = b.hd
    · rw [decide_eq_true h1] at t1
      by_cases h2 : a.extra = b.extra
      · rw [decide_eq_true h2] at t2
        by_cases h3 : a.links = b.links
        · rw [decide_eq_true h3] at t3
          by_cases h4 : a.linked = b.linked
          · by_cases h5 : a.dflt = b.dflt
            · rw [decide_eq_true (hp.2 ⟨h1, h2, h3, h4, h5⟩)]
              have h4 : (a.linked == b.linked) = true := by rw [h4]; exact beq_self_eq_true _
              rcases hx with rfl | ⟨rfl, he⟩
              all_goals rcases hy with rfl | ⟨rfl, he2⟩
              all_goals (have fA := And.intro @pgs (And.intro @pgs2 (And.intro @la @lb)); have c1 := t1; have c2 := t2; have c3 := t3; refine gox ?_; clear fA c1 c2 c3)
              all_goals (refine finx ?_; try with_reducible rfl)
              all_goals simp [h5]
            · rw [decide_eq_false (fun e => h5 (hp.1 e).2.2.2.2)]
              have h4 : (a.linked == b.linked) = true := by rw [h4]; exact beq_self_eq_true _
              rcases hx with rfl | ⟨rfl, he⟩
              all_goals rcases hy with rfl | ⟨rfl, he2⟩
              all_goals (have fA := And.intro @pgs (And.intro @pgs2 (And.intro @la @lb)); have c1 := t1; have c2 := t2; have c3 := t3; refine gox ?_; clear fA c1 c2 c3)
              all_goals (refine finx ?_; try with_reducible rfl)
              all_goals simp [h5]
          · rw [decide_eq_false (fun e => h4 (hp.1 e).2.2.2.1)]
            have h4 := bool_ne_f h4
            rcases hx with rfl | ⟨rfl, he⟩
            all_goals rcases hy with rfl | ⟨rfl, he2⟩
            all_goals (have fA := And.intro @pgs (And.intro @pgs2 (And.intro @la @lb)); have c1 := t1; have c2 := t2; have c3 := t3; refine gox ?_; clear fA c1 c2 c3)
            all_goals (refine finx ?_; try with_reducible rfl)
            all_goals try rfl
        · rw [decide_eq_false (fun e => h3 (hp.1 e).2.2.1)]
          rw [decide_eq_false h3] at t3
          rcases hx with rfl | ⟨rfl, he⟩
          all_goals rcases hy with rfl | ⟨rfl, he2⟩
          all_goals (have fA := And.intro @pgs (And.intro @pgs2 (And.intro @la @lb)); have c1 := t1; have c2 := t2; have c3 := t3; refine gox ?_; clear fA c1 c2 c3)
          all_goals (refine finx ?_; try with_reducible rfl)
          all_goals try rfl
      · rw [decide_eq_false (fun e => h2 (hp.1 e).2.1)]
        rw [decide_eq_false h2] at t2
        rcases hx with rfl | ⟨rfl, he⟩
        all_goals rcases hy with rfl | ⟨rfl, he2⟩
        all_goals (have fA := And.intro @pgs (And.intro @pgs2 (And.intro @la @lb)); have c1 := t1; have c2 := t2; have c3 := t3; refine gox ?_; clear fA c1 c2 c3)
        all_goals (refine finx ?_; try with_reducible rfl)
        all_goals try rfl
    · rw [decide_eq_false (fun e => h1 (hp.1 e).1)]
      rw [decide_eq_false h1] at t1
      (have fA := And.intro @pgs (And.intro @pgs2 (And.intro @la @lb)); have c1 := t1; have c2 := t2; have c3 := t3; refine gox ?_; clear fA c1 c2 c3)
      (refine finx ?_; try with_reducible rfl)
      try rfl

end Go.Proofs.Ytimcmpceekbfjaa
