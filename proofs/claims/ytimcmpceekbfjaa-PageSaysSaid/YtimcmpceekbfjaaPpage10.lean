/- Functions of the seat, worked off from their code: chunk page10. Written by program (tools/mkp.py) from wip/fn. -/
import Derived.Test.YtimcmpceekbfjaaSimT
import Derived.Test.YtimcmpceekbfjaaSimY
import Derived.Test.YtimcmpceekbfjaaPpage9
set_option maxRecDepth 100000
set_option maxHeartbeats 40000000
set_option linter.unusedSimpArgs false
set_option linter.unusedVariables false
namespace Go.Proofs.Ytimcmpceekbfjaa
open Go Go.Sim
attribute [local irreducible] chk brX getX strX setX takeX normX fillX lendX partsX opsX callK lentK giveX adoptX resX joinX headX loopX seqK blkK regK finX exOps ex eqT
attribute [local simp] setR_int setR_bool setR_zero setR_succ repl_int repl_bool List.getElem?_cons_zero List.getElem?_cons_succ List.getElem?_nil w_i64 w_u64 w_u8 bAnd_u8 bOr_u8 bXor_u8 bAndNot_u8 bShl_u8 wrap_u8_range all_plain_int all_plain_bool all_plain_app pl_bool pl_int pl_str pl_nilp pl_nsl pl_nilI pl_nilF take_map_len AV.cells TI.isAgg
attribute [local simp] Tr.flen Tr.rd Tr.g0 Tr.g1 Tr.g2 Tr.put Tr.pute Tr.s0 Tr.s1 Tr.s2 Tr.zero Tr.enc Hd.flen Hd.rd Hd.g0 Hd.g1 Hd.g2 Hd.g3 Hd.g4 Hd.g5 Hd.g6 Hd.g7 Hd.g8 Hd.g9 Hd.g10 Hd.g11 Hd.g12 Hd.g13 Hd.g14 Hd.put Hd.pute Hd.s0 Hd.s1 Hd.s2 Hd.s3 Hd.s4 Hd.s5 Hd.s6 Hd.s7 Hd.s8 Hd.s9 Hd.s10 Hd.s11 Hd.s12 Hd.s13 Hd.s14 Hd.zero Hd.enc

theorem eqEs_dec {j : TI} {f : AV → AV → Option Bool} {xs ys : List AV} {P : Nat → Prop} [DecidablePred P] : ∀ ks : List Nat, (∀ k ∈ ks, ∃ a b, rdCells j xs (k * j.size) = some a ∧ rdCells j ys (k * j.size) = some b ∧ f a b = some (decide (P k))) → eqEs j f xs ys ks = some (decide (∀ k ∈ ks, P k))
  | [], _ => by simp [eqEs]
  | k :: ks, h => by
    obtain ⟨a, b, h1, h2, h3⟩ := h k (by simp)
    have ih := eqEs_dec (P := P) ks fun i hi => h i (by simp [hi])
    unfold eqEs
    rw [h1, h2]
    simp only [h3]
    by_cases q : P k
    · rw [decide_eq_true q]
      simp only [ih]
      congr 1
      simp [q]
    · rw [decide_eq_false q]
      simp [q]
theorem eqI {t : Nat} {i : IntKind} {d : Nat} {sz bt : Nat} {z : List AV} (h : L t = some ⟨.int i, sz, bt, z⟩) (x y : Int) : eqT L (d + 1) t (.int i x) (.int i y) = some (decide (x = y)) := by
  unfold eqT
  simp only [h, if_true, int_beq]
theorem eqB {t : Nat} {d : Nat} {sz bt : Nat} {z : List AV} (h : L t = some ⟨.bool, sz, bt, z⟩) (x y : Bool) : eqT L (d + 1) t (.bool x) (.bool y) = some (decide (x = y)) := by
  unfold eqT
  simp only [h]
  cases x <;> cases y <;> rfl
theorem eq3 {t e d : Nat} {sz bt sz2 bt2 : Nat} {z z2 : List AV} (h : L t = some ⟨.strct [(0, e), (1, e), (2, e)], sz, bt, z⟩) (he : L e = some ⟨.int .i64, sz2, bt2, z2⟩) (a1 a2 a3 b1 b2 b3 : Int) :
    eqT L (d + 2) t (.agg [.int .i64 a1, .int .i64 a2, .int .i64 a3]) (.agg [.int .i64 b1, .int .i64 b2, .int .i64 b3]) = some (decide (a1 = b1 ∧ a2 = b2 ∧ a3 = b3)) := by
  have e := fun x y => eqI (d := d) he x y
  unfold eqT
  simp only [h]
  by_cases h1 : a1 = b1 <;> by_cases h2 : a2 = b2 <;> by_cases h3 : a3 = b3 <;> simp [eqFs, rdCells, TI.isAgg, he, e, h1, h2, h3]
theorem eqInts {t e d n : Nat} {i : IntKind} {sz bt bt2 : Nat} {z z2 : List AV} (h : L t = some ⟨.arr n e, sz, bt, z⟩) (he : L e = some ⟨.int i, 1, bt2, z2⟩) (xs ys : List Int) (hx : xs.length = n) (hy : ys.length = n) :
    eqT L (d + 2) t (.agg (xs.map (.int i))) (.agg (ys.map (.int i))) = some (decide (xs = ys)) := by
  unfold eqT
  simp only [h, he]
  rw [eqEs_dec (P := fun k => xs.getD k 0 = ys.getD k 0)]
  · congr 1
    rw [decide_eq_decide]
    constructor
    · intro q
      refine List.ext_getElem (by omega) fun k h1 h2 => ?_
      simpa [List.getD_eq_getElem?_getD, h1, h2] using q k (List.mem_range.2 (by omega))
    · rintro rfl k _; rfl
  · intro k hk
    have hk := List.mem_range.1 hk
    refine ⟨.int i (xs.getD k 0), .int i (ys.getD k 0), ?_, ?_, eqI he _ _⟩
    · simp only [rdCells, TI.isAgg, Nat.mul_one]; exact geti (by omega) 0
    · simp only [rdCells, TI.isAgg, Nat.mul_one]; exact geti (by omega) 0
theorem getb {xs : List Bool} {k : Nat} (h : k < xs.length) : (xs.map AV.bool)[k]? = some (.bool (xs.getD k false)) := by
  rw [List.getElem?_map, List.getElem?_eq_getElem h, List.getD_eq_getElem?_getD, List.getElem?_eq_getElem h]; rfl
theorem eqBools {t e d n : Nat} {sz bt bt2 : Nat} {z z2 : List AV} (h : L t = some ⟨.arr n e, sz, bt, z⟩) (he : L e = some ⟨.bool, 1, bt2, z2⟩) (xs ys : List Bool) (hx : xs.length = n) (hy : ys.length = n) :
    eqT L (d + 2) t (.agg (xs.map .bool)) (.agg (ys.map .bool)) = some (decide (xs = ys)) := by
  unfold eqT
  simp only [h, he]
  rw [eqEs_dec (P := fun k => xs.getD k false = ys.getD k false)]
  · congr 1
    rw [decide_eq_decide]
    constructor
    · intro q
      exact there_ext hx hy fun k hk => q k (List.mem_range.2 hk)
    · rintro rfl k _; rfl
  · intro k hk
    have hk := List.mem_range.1 hk
    refine ⟨.bool (xs.getD k false), .bool (ys.getD k false), ?_, ?_, eqB he _ _⟩
    · simp only [rdCells, TI.isAgg, Nat.mul_one]; exact getb (by omega)
    · simp only [rdCells, TI.isAgg, Nat.mul_one]; exact getb (by omega)
theorem chunk_ext {xs ys : List Int} {n m : Nat} (hx : xs.length = n * m) (hy : ys.length = n * m) (hm : 0 < m) (h : ∀ k, k < n → (xs.drop (k * m)).take m = (ys.drop (k * m)).take m) : xs = ys := by
  refine List.ext_getElem (by omega) fun i h1 h2 => ?_
  have hk : i / m < n := (Nat.div_lt_iff_lt_mul hm).2 (by omega)
  have e := congrArg (fun l => l[i % m]?) (h (i / m) hk)
  have hmod := Nat.mod_lt i hm
  have hdm := Nat.div_add_mod' i m
  simp only [List.getElem?_take_of_lt hmod, List.getElem?_drop, hdm, List.getElem?_eq_getElem h1, List.getElem?_eq_getElem h2, Option.some.injEq] at e
  exact e
theorem eqRows {t e d n m : Nat} {sz bt bt2 : Nat} {z z2 : List AV} (h : L t = some ⟨.arr n e, sz, bt, z⟩) (he : L e = some ⟨.arr m 5, m, bt2, z2⟩) (hm : 0 < m) (xs ys : List Int) (hx : xs.length = n * m) (hy : ys.length = n * m) :
    eqT L (d + 3) t (.agg (xs.map (.int .u8))) (.agg (ys.map (.int .u8))) = some (decide (xs = ys)) := by
  unfold eqT
  simp only [h, he]
  rw [eqEs_dec (P := fun k => (xs.drop (k * m)).take m = (ys.drop (k * m)).take m)]
  · congr 1
    rw [decide_eq_decide]
    constructor
    · intro q
      exact chunk_ext hx hy hm fun k hk => q k (List.mem_range.2 hk)
    · rintro rfl k _; rfl
  · intro k hk
    have hk := List.mem_range.1 hk
    have hle : k * m + m ≤ n * m := by rw [← Nat.succ_mul]; exact Nat.mul_le_mul_right m hk
    refine ⟨.agg (((xs.drop (k * m)).take m).map (.int .u8)), .agg (((ys.drop (k * m)).take m).map (.int .u8)), ?_, ?_, eqInts he (show L 5 = some _ from rfl) _ _ (by simp; omega) (by simp; omega)⟩
    · simp only [rdCells, TI.isAgg, if_true, List.length_map, hx]; rw [if_pos hle, List.map_take, List.map_drop]
    · simp only [rdCells, TI.isAgg, if_true, List.length_map, hy]; rw [if_pos hle, List.map_take, List.map_drop]
theorem eqTris {t e d n : Nat} {sz bt bt2 : Nat} {z z2 : List AV} (h : L t = some ⟨.arr n e, sz, bt, z⟩) (he : L e = some ⟨.strct [(0, 3), (1, 3), (2, 3)], 3, bt2, z2⟩) (xs ys : List Int) (hx : xs.length = n * 3) (hy : ys.length = n * 3) :
    eqT L (d + 3) t (.agg (xs.map (.int .i64))) (.agg (ys.map (.int .i64))) = some (decide (xs = ys)) := by
  unfold eqT
  simp only [h, he]
  rw [eqEs_dec (P := fun k => tri xs k = tri ys k)]
  · congr 1
    rw [decide_eq_decide]
    constructor
    · intro q
      exact tri_ext hx hy fun k hk => q k (List.mem_range.2 hk)
    · rintro rfl k _; rfl
  · intro k hk
    have hk := List.mem_range.1 hk
    have hle : k * 3 + 3 ≤ n * 3 := by omega
    refine ⟨_, _, ?_, ?_, (eq3 he (show L 3 = some _ from rfl) (tri xs k).1 (tri xs k).2.1 (tri xs k).2.2 (tri ys k).1 (tri ys k).2.1 (tri ys k).2.2).trans ?_⟩
    · simp only [rdCells, TI.isAgg, if_true, List.length_map, hx]; rw [if_pos hle, tri_at (by omega)]
    · simp only [rdCells, TI.isAgg, if_true, List.length_map, hy]; rw [if_pos hle, tri_at (by omega)]
    · congr 1
      rw [decide_eq_decide]
      constructor
      · rintro ⟨h1, h2, h3⟩; exact Prod.ext h1 (Prod.ext h2 h3)
      · intro q; rw [q]; exact ⟨rfl, rfl, rfl⟩
theorem eqHd (a b : Hd) : eqT L 20 33 (.agg a.enc) (.agg b.enc) = some (decide (a = b)) := by
  have e3 := eq3 (t := 30) (d := 17) rfl (show L 3 = some _ from rfl) a.mag a.page a.sub b.mag b.page b.sub
  have eb := eqBools (t := 31) (d := 17) rfl (show L 4 = some _ from rfl) a.cs b.cs rfl rfl
  have eo := eqI (t := 3) (d := 18) rfl a.opt b.opt
  unfold eqT
  show eqFs L (eqT L 19) a.enc b.enc [(0, 30), (3, 31), (14, 3)] = _
  have r1 : ∀ h : Hd, rdCells ⟨.strct [(0, 3), (1, 3), (2, 3)], 3, 24, [.int .i64 0, .int .i64 0, .int .i64 0]⟩ h.enc 0 = some (.agg [.int .i64 h.mag, .int .i64 h.page, .int .i64 h.sub]) := fun _ => rfl
  have r2 : ∀ h : Hd, rdCells ⟨.arr 11 4, 11, 11, [.bool false, .bool false, .bool false, .bool false, .bool false, .bool false, .bool false, .bool false, .bool false, .bool false, .bool false]⟩ h.enc 3 = some (.agg (h.cs.map .bool)) := fun _ => rfl
  have r3 : ∀ h : Hd, rdCells ⟨.int .i64, 1, 8, [.int .i64 0]⟩ h.enc 14 = some (.int .i64 h.opt) := fun _ => rfl
  simp only [eqFs, L30, L31, L3, r1, r2, r3, e3, eb, eo]
  by_cases h1 : a.mag = b.mag ∧ a.page = b.page ∧ a.sub = b.sub
  · rw [decide_eq_true h1]
    by_cases h2 : a.cs = b.cs
    · rw [decide_eq_true h2]
      by_cases h3 : a.opt = b.opt
      · rw [decide_eq_true h3, decide_eq_true (p := a = b) (Hd.eq_of h1.1 h1.2.1 h1.2.2 (fun k _ => by rw [h2]) h3)]
      · rw [decide_eq_false h3, decide_eq_false (p := a = b) (fun e => h3 (by rw [e]))]
    · rw [decide_eq_false h2, decide_eq_false (p := a = b) (fun e => h2 (by rw [e]))]
  · rw [decide_eq_false h1, decide_eq_false (p := a = b) (fun e => h1 (by rw [e]; exact ⟨rfl, rfl, rfl⟩))]
theorem t_EqualX (tag : Nat) {x y : AV} {a b : List Tr} (hx : ExOK x a) (hy : ExOK y b) (hl : a.length < 1000000) : callω L T 31 tag [x, y] [none, none] = some (.bool (decide (a = b)), [none, none]) := by
  rcases hx with rfl | ⟨rfl, rfl⟩
  · rcases hy with rfl | ⟨rfl, rfl⟩
    · exact t_EqualT tag a b hl
    · by_cases ha : a.length = 0
      · obtain rfl := List.eq_nil_of_length_eq_zero ha
        rw [call_ex (show T 31 = some (.code a31) from rfl) rfl rfl]
        (refine gox ?_)
        refine Eq.trans headX_go ?_
        (refine gox ?_)
        (refine finx ?_; try with_reducible rfl)
        try rfl
      · rw [decide_eq_false (fun e => ha (by rw [e]; rfl))]
        rw [call_ex (show T 31 = some (.code a31) from rfl) rfl rfl]
        (refine gox ?_)
        (refine finx ?_; try with_reducible rfl)
        try rfl
  · rcases hy with rfl | ⟨rfl, rfl⟩
    · by_cases hb : b.length = 0
      · obtain rfl := List.eq_nil_of_length_eq_zero hb
        rw [call_ex (show T 31 = some (.code a31) from rfl) rfl rfl]
        (refine gox ?_)
        refine Eq.trans headX_go ?_
        (refine gox ?_)
        (refine finx ?_; try with_reducible rfl)
        try rfl
      · rw [decide_eq_false (fun e => hb (by rw [← e]; rfl))]
        rw [call_ex (show T 31 = some (.code a31) from rfl) rfl rfl]
        (refine gox ?_)
        (refine finx ?_; try with_reducible rfl)
        try rfl
    · rw [call_ex (show T 31 = some (.code a31) from rfl) rfl rfl]
      (refine gox ?_)
      refine Eq.trans headX_go ?_
      (refine gox ?_)
      (refine finx ?_; try with_reducible rfl)
      try rfl
attribute [local irreducible] Pg.enc
theorem Pg.rows_all {p : Pg} {x : AV} (h : p.Ok) : ((p.enc x).drop 15).take 1000 = p.rows.map (.int .u8) := by
  have e := h.rows
  unfold Pg.enc
  rw [show 15 = 15 + 0 from rfl, drop_app_r (n := 15) (Hd.len _), List.drop_zero, List.take_append_of_le_length (by simp [e]), List.take_of_length_le (by simp [e])]
theorem Pg.there_all {p : Pg} {x : AV} (h : p.Ok) : ((p.enc x).drop 1015).take 25 = p.there.map .bool := by
  have e := h.rows; have e2 := h.there
  unfold Pg.enc
  rw [show 1015 = 15 + (1000 + 0) from rfl, drop_app_r (n := 15) (Hd.len _), drop_app_r (n := 1000) (Pg.rl h), List.drop_zero, List.take_append_of_le_length (by simp [e2]), List.take_of_length_le (by simp [e2])]
theorem aBin_eql {t : Nat} {xs ys : List AV} {r : Bool} (h : eqT L 20 t (.agg xs) (.agg ys) = some r) : aBin L t .eql (.agg xs) (.agg ys) = some (.bool r) := by
  show (eqT L 20 t (.agg xs) (.agg ys)).map _ = _
  rw [h]; rfl
theorem pgs3 : type_of% (And.intro @Pg.rows_all @Pg.there_all) := And.intro @Pg.rows_all @Pg.there_all
theorem t_Same (tag : Nat) (a b : Pg) (ha : a.Ok) (hb : b.Ok) {x y : AV} (hx : ExOK x a.extra) (hy : ExOK y b.extra) (hl : a.extra.length < 1000000) : callω L T 15 tag [.agg (a.enc x), .agg (b.enc y)] [none, none] = some (.bool (decide (pgP a b)), [none, none]) := by
  rw [call_ex (show T 15 = some (.code a15) from rfl) rfl rfl]
  have e1 := aBin_eql (eqHd a.hd b.hd)
  have e2 := aBin_eql (eqRows (t := 34) (d := 17) rfl (show L 22 = some _ from rfl) (by decide) a.rows b.rows ha.rows hb.rows)
  have e3 := aBin_eql (eqBools (t := 35) (d := 18) rfl (show L 4 = some _ from rfl) a.there b.there ha.there hb.there)
  have e4 := aBin_eql (eqTris (t := 37) (d := 17) rfl (show L 30 = some _ from rfl) a.links b.links ha.links hb.links)
  have te := t_EqualX (tag + 1) hx hy hl
  have la := Hd.len a.hd
  have lb := Hd.len b.hd
  by_cases h1 : a.hd = b.hd
  · rw [decide_eq_true h1] at e1
    by_cases h2 : a.rows = b.rows
    · rw [decide_eq_true h2] at e2
      by_cases h3 : a.there = b.there
      · rw [decide_eq_true h3] at e3
        by_cases h4 : a.extra = b.extra
        · rw [decide_eq_true h4] at te
          by_cases h5 : a.links = b.links
          · rw [decide_eq_true h5] at e4
            by_cases h6 : a.linked = b.linked
            · skip
              have h6' : (a.linked == b.linked) = true := by rw [h6]; exact beq_self_eq_true _
              by_cases h7 : a.dflt = b.dflt
              · skip
                rw [decide_eq_true (p := pgP a b) ⟨h1, h2, h3, h4, h5, h6, h7⟩]
                rcases hx with rfl | ⟨rfl, he⟩
                all_goals rcases hy with rfl | ⟨rfl, he2⟩
                all_goals (have fA := And.intro @pgs (And.intro @pgs2 (And.intro @pgs3 (And.intro @la @lb))); have c1 := te; refine gox ?_; clear fA c1)
                all_goals (refine finx ?_; try with_reducible rfl)
                all_goals simp [h7]
              · rw [decide_eq_false (p := pgP a b) (fun e => h7 (e.2.2.2.2.2.2))]
                rcases hx with rfl | ⟨rfl, he⟩
                all_goals rcases hy with rfl | ⟨rfl, he2⟩
                all_goals (have fA := And.intro @pgs (And.intro @pgs2 (And.intro @pgs3 (And.intro @la @lb))); have c1 := te; refine gox ?_; clear fA c1)
                all_goals (refine finx ?_; try with_reducible rfl)
                all_goals simp [h7]
            · rw [decide_eq_false (p := pgP a b) (fun e => h6 (e.2.2.2.2.2.1))]
              have h6 := bool_ne_f h6
              rcases hx with rfl | ⟨rfl, he⟩
              all_goals rcases hy with rfl | ⟨rfl, he2⟩
              all_goals (have fA := And.intro @pgs (And.intro @pgs2 (And.intro @pgs3 (And.intro @la @lb))); have c1 := te; refine gox ?_; clear fA c1)
              all_goals (refine finx ?_; try with_reducible rfl)
              all_goals try rfl
          · rw [decide_eq_false (p := pgP a b) (fun e => h5 (e.2.2.2.2.1))]
            rw [decide_eq_false h5] at e4
            rcases hx with rfl | ⟨rfl, he⟩
            all_goals rcases hy with rfl | ⟨rfl, he2⟩
            all_goals (have fA := And.intro @pgs (And.intro @pgs2 (And.intro @pgs3 (And.intro @la @lb))); have c1 := te; refine gox ?_; clear fA c1)
            all_goals (refine finx ?_; try with_reducible rfl)
            all_goals try rfl
        · rw [decide_eq_false (p := pgP a b) (fun e => h4 (e.2.2.2.1))]
          rw [decide_eq_false h4] at te
          rcases hx with rfl | ⟨rfl, he⟩
          all_goals rcases hy with rfl | ⟨rfl, he2⟩
          all_goals (have fA := And.intro @pgs (And.intro @pgs2 (And.intro @pgs3 (And.intro @la @lb))); have c1 := te; refine gox ?_; clear fA c1)
          all_goals (refine finx ?_; try with_reducible rfl)
          all_goals try rfl
      · rw [decide_eq_false (p := pgP a b) (fun e => h3 (e.2.2.1))]
        rw [decide_eq_false h3] at e3
        rcases hx with rfl | ⟨rfl, he⟩
        all_goals rcases hy with rfl | ⟨rfl, he2⟩
        all_goals (have fA := And.intro @pgs (And.intro @pgs2 (And.intro @pgs3 (And.intro @la @lb))); have c1 := te; refine gox ?_; clear fA c1)
        all_goals (refine finx ?_; try with_reducible rfl)
        all_goals try rfl
    · rw [decide_eq_false (p := pgP a b) (fun e => h2 (e.2.1))]
      rw [decide_eq_false h2] at e2
      rcases hx with rfl | ⟨rfl, he⟩
      all_goals rcases hy with rfl | ⟨rfl, he2⟩
      all_goals (have fA := And.intro @pgs (And.intro @pgs2 (And.intro @pgs3 (And.intro @la @lb))); have c1 := te; refine gox ?_; clear fA c1)
      all_goals (refine finx ?_; try with_reducible rfl)
      all_goals try rfl
  · rw [decide_eq_false (p := pgP a b) (fun e => h1 (e.1))]
    rw [decide_eq_false h1] at e1
    rcases hx with rfl | ⟨rfl, he⟩
    all_goals rcases hy with rfl | ⟨rfl, he2⟩
    all_goals (have fA := And.intro @pgs (And.intro @pgs2 (And.intro @pgs3 (And.intro @la @lb))); have c1 := te; refine gox ?_; clear fA c1)
    all_goals (refine finx ?_; try with_reducible rfl)
    all_goals try rfl

end Go.Proofs.Ytimcmpceekbfjaa
