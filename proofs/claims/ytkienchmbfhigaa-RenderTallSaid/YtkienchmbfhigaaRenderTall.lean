/- RenderTall: tall letters stand in two rows: the lower half below the upper, the ground of the others below them; what the lower row says itself is not seen. No condition. -/
import Derived.Test.YtkienchmbfhigaaRows
import Derived.Test.YtkienchmbfhigaaSimT
import Derived.Test.YtkienchmbfhigaaSimY
import Derived.Test.YtkienchmbfhigaaPrender5
import Derived.Test.YtkienchmbfhigaaPattr5
set_option maxRecDepth 100000
set_option maxHeartbeats 40000000
set_option linter.unusedSimpArgs false
set_option linter.unusedVariables false
namespace Go.Proofs.Ytkienchmbfhigaa.renderTall
open Go Go.Sim
attribute [local irreducible] chk brX getX strX setX takeX normX fillX lendX partsX opsX callK lentK lentR giveX adoptX resX joinX headX loopX seqK blkK regK finX exOps ex eqT
attribute [local simp] setR_int setR_bool setR_zero setR_succ repl_int repl_bool List.getElem?_cons_zero List.getElem?_cons_succ List.getElem?_nil w_i64 w_u64 w_u8 bAnd_u8 bOr_u8 bXor_u8 bAndNot_u8 bShl_u8 wrap_u8_range all_plain_int all_plain_bool all_plain_app pl_bool pl_int pl_str pl_nilp pl_nsl pl_nilI pl_nilF take_map_len AV.cells TI.isAgg

attribute [local simp] Cell.flen Cell.rd Cell.g0 Cell.g1 Cell.g2 Cell.g3 Cell.g4 Cell.g5 Cell.g6 Cell.g7 Cell.g8 Cell.g9 Cell.put Cell.pute Cell.s0 Cell.s1 Cell.s2 Cell.s3 Cell.s4 Cell.s5 Cell.s6 Cell.s7 Cell.s8 Cell.s9 Cell.zero Cell.enc Tr.flen Tr.rd Tr.g0 Tr.g1 Tr.g2 Tr.put Tr.pute Tr.s0 Tr.s1 Tr.s2 Tr.zero Tr.enc Hd.flen Hd.rd Hd.g0 Hd.g1 Hd.g2 Hd.g3 Hd.g4 Hd.g5 Hd.g6 Hd.g7 Hd.g8 Hd.g9 Hd.g10 Hd.g11 Hd.g12 Hd.g13 Hd.g14 Hd.put Hd.pute Hd.s0 Hd.s1 Hd.s2 Hd.s3 Hd.s4 Hd.s5 Hd.s6 Hd.s7 Hd.s8 Hd.s9 Hd.s10 Hd.s11 Hd.s12 Hd.s13 Hd.s14 Hd.zero Hd.enc
def tb (x : Int) : Int := bOr .u8 (bAnd .u8 x 95) 32
theorem tb_ok {x : Int} (h0 : 0 ≤ x) (h1 : x < 256) : 32 ≤ tb x ∧ tb x < 128 ∧ bAnd .u8 (tb x) 127 = tb x := by
  have h := byteB_get (p := fun x => decide (32 ≤ tb x ∧ tb x < 128 ∧ bAnd .u8 (tb x) 127 = tb x)) (by decide +kernel) h0 h1
  exact of_decide_eq_true h
/-- The bytes of the upper row. -/
def ub (xs : List Int) (a k : Nat) : Int := if k = 0 then 1 else if k = 1 then 29 else if k = 2 then 7 else if k < a + 3 then 110 else if k = a + 3 then 13 else if k < a + 4 + xs.length then tb (xs.getD (k - (a + 4)) 0) else 32
theorem ub_ok {xs : List Int} (hx : ∀ x ∈ xs, 0 ≤ x ∧ x < 256) (a k : Nat) : 0 ≤ ub xs a k ∧ ub xs a k < 128 ∧ bAnd .u8 (ub xs a k) 127 = ub xs a k := by
  unfold ub
  split
  · exact ⟨by decide, by decide, by decide⟩
  · split
    · exact ⟨by decide, by decide, by decide⟩
    · split
      · exact ⟨by decide, by decide, by decide⟩
      · split
        · exact ⟨by decide, by decide, by decide⟩
        · split
          · exact ⟨by decide, by decide, by decide⟩
          · split
            · have : ∀ k, 0 ≤ xs.getD k 0 ∧ xs.getD k 0 < 256 := fun k => by
                by_cases hk : k < xs.length
                · rw [List.getD_eq_getElem?_getD, List.getElem?_eq_getElem hk]
                  exact hx _ (List.getElem_mem hk)
                · rw [List.getD_eq_getElem?_getD, List.getElem?_eq_none (by omega)]
                  exact ⟨by decide, by decide⟩
              have h := this (k - (a + 4))
              have q := tb_ok h.1 h.2
              exact ⟨by omega, q.2.1, q.2.2⟩
            · exact ⟨by decide, by decide, by decide⟩
theorem ub_big {xs : List Int} (hx : ∀ x ∈ xs, 0 ≤ x ∧ x < 256) {a k : Nat} (hk : 3 ≤ k) (hka : ¬ k = a + 3) : 32 ≤ ub xs a k := by
  unfold ub
  rw [if_neg (by omega), if_neg (by omega), if_neg (by omega)]
  split
  · decide
  · try rw [if_neg hka]
    split
    · have : ∀ k, 0 ≤ xs.getD k 0 ∧ xs.getD k 0 < 256 := fun k => by
        by_cases hk : k < xs.length
        · rw [List.getD_eq_getElem?_getD, List.getElem?_eq_getElem hk]
          exact hx _ (List.getElem_mem hk)
        · rw [List.getD_eq_getElem?_getD, List.getElem?_eq_none (by omega)]
          exact ⟨by decide, by decide⟩
      have h := this (k - (a + 4))
      exact (tb_ok h.1 h.2).1
    · decide
def uL (xs : List Int) (a : Nat) : List Int := (List.range 40).map (ub xs a)
theorem uL_get (xs : List Int) (a : Nat) {k : Nat} (hk : k < 40) (d : Int) : (uL xs a).getD k d = ub xs a k := by simp [uL, List.getD_eq_getElem?_getD, hk]
structure TallS (s : At) (fg bg : Int) (db : Bool) : Prop where
  fg : s.fg = fg
  bg : s.bg = bg
  db : s.double = db
  co : s.conceal = false
theorem step_fst (s : At) (b o : Int) (hb : bAnd .u8 b 127 = b) : (stepF s b o).1 = { behindF { atF s b with held := (glyphF (atF s b) b o).2 } b with last := b } := by
  unfold stepF; rw [hb]
theorem step_snd (s : At) (b o : Int) (hb : bAnd .u8 b 127 = b) : (stepF s b o).2 = cellF (atF s b) (glyphF (atF s b) b o).1 := by
  unfold stepF; rw [hb]
theorem at_big {s : At} {c : Int} (hc : 32 ≤ c) : atF s c = s := by
  unfold atF
  rw [if_neg (by omega), if_neg (by omega), if_neg (by omega), if_neg (by omega), if_neg (by omega), if_neg (by omega), if_neg (by omega), if_neg (by omega)]
theorem behind_big {s : At} {c : Int} (hc : 32 ≤ c) : behindF s c = s := by
  unfold behindF
  rw [if_neg (by omega), if_neg (by omega), if_neg (by omega), if_neg (by omega), if_neg (by omega)]
theorem u_st {xs : List Int} (hx : ∀ x ∈ xs, 0 ≤ x ∧ x < 256) (a : Nat) (o : Int) : ∀ k, k ≤ 40 → TallS (stF (uL xs a) o k) (if k = 0 then 7 else if k < 3 then 1 else 7) (if k < 2 then 0 else 1) (decide (a + 3 < k))
  | 0, _ => ⟨rfl, rfl, rfl, rfl⟩
  | k + 1, hk => by
    have ih := u_st hx a o k (by omega)
    have hok := ub_ok hx a k
    have e : stF (uL xs a) o (k + 1) = (stepF (stF (uL xs a) o k) (ub xs a k) o).1 := by
      show (stepF (stF (uL xs a) o k) ((uL xs a).getD k 32) o).1 = _
      rw [uL_get xs a (by omega)]
    rw [e, step_fst _ _ _ hok.2.2]
    generalize stF (uL xs a) o k = s at *
    by_cases h0 : k = 0
    · subst h0
      rw [show ub xs a 0 = 1 from rfl]
      exact ⟨rfl, ih.bg, by rw [decide_eq_false (by omega)]; exact ih.db.trans (decide_eq_false (by omega)), rfl⟩
    · by_cases h1 : k = 1
      · subst h1
        rw [show ub xs a 1 = 29 from rfl]
        exact ⟨ih.fg, ih.fg, by rw [decide_eq_false (by omega)]; exact ih.db.trans (decide_eq_false (by omega)), ih.co⟩
      · by_cases h2 : k = 2
        · subst h2
          rw [show ub xs a 2 = 7 from rfl]
          exact ⟨rfl, ih.bg, by rw [decide_eq_false (by omega)]; exact ih.db.trans (decide_eq_false (by omega)), rfl⟩
        · have ih1 := ih.fg
          have ih2 := ih.bg
          rw [if_neg h0, if_neg (by omega)] at ih1
          rw [if_neg (by omega)] at ih2
          rw [if_neg (show ¬ k + 1 = 0 by omega), if_neg (show ¬ k + 1 < 3 by omega), if_neg (show ¬ k + 1 < 2 by omega)]
          by_cases ha : k = a + 3
          · have eu : ub xs a k = 13 := by unfold ub; rw [if_neg h0, if_neg h1, if_neg h2, if_neg (by omega), if_pos ha]
            rw [eu]
            exact ⟨ih1, ih2, by rw [decide_eq_true (by omega)]; rfl, ih.co⟩
          · have hb := ub_big hx (a := a) (show 3 ≤ k by omega) ha
            rw [at_big hb, behind_big hb]
            exact ⟨ih1, ih2, by rw [show decide (a + 3 < k + 1) = decide (a + 3 < k) from by rw [decide_eq_decide]; omega]; exact ih.db, ih.co⟩
theorem u_ce {xs : List Int} (hx : ∀ x ∈ xs, 0 ≤ x ∧ x < 256) (a : Nat) (o : Int) {k : Nat} (hk : k < 40) : (ceF (uL xs a) o k).high = (if a + 3 < k then 1 else 0) ∧ (ceF (uL xs a) o k).bg = (if k = 0 then 0 else 1) ∧ (ceF (uL xs a) o k).conceal = false := by
  have ih := u_st hx a o k (by omega)
  have hok := ub_ok hx a k
  have e : ceF (uL xs a) o k = (stepF (stF (uL xs a) o k) (ub xs a k) o).2 := by
    show (stepF (stF (uL xs a) o k) ((uL xs a).getD k 32) o).2 = _
    rw [uL_get xs a hk]
  rw [e, step_snd _ _ _ hok.2.2]
  generalize stF (uL xs a) o k = s at *
  have hh : ∀ (t : At) (g : Int), (cellF t g).high = (if t.double = true then 1 else 0) ∧ (cellF t g).bg = t.bg ∧ (cellF t g).conceal = t.conceal := fun t g => ⟨rfl, rfl, rfl⟩
  obtain ⟨q1, q2, q3⟩ := hh (atF s (ub xs a k)) (glyphF (atF s (ub xs a k)) (ub xs a k) o).1
  rw [q1, q2, q3]
  have hd := ih.db
  by_cases h0 : k = 0
  · subst h0
    rw [show ub xs a 0 = 1 from rfl]
    refine ⟨?_, ih.bg, ih.co⟩
    show (if s.double = true then (1 : Int) else 0) = _
    rw [hd, decide_eq_false (by omega), if_neg (by decide), if_neg (by omega)]
  · by_cases h1 : k = 1
    · subst h1
      rw [show ub xs a 1 = 29 from rfl]
      refine ⟨?_, ih.fg, ih.co⟩
      show (if s.double = true then (1 : Int) else 0) = _
      rw [hd, decide_eq_false (by omega), if_neg (by decide), if_neg (by omega)]
    · have hbg := ih.bg
      rw [if_neg (by omega)] at hbg
      rw [if_neg h0]
      have hs : (if s.double = true then (1 : Int) else 0) = (if a + 3 < k then 1 else 0) := by
        rw [hd]
        by_cases q : a + 3 < k
        · rw [decide_eq_true q, if_pos rfl, if_pos q]
        · rw [decide_eq_false q, if_neg (by decide), if_neg q]
      by_cases h2 : k = 2
      · subst h2
        rw [show ub xs a 2 = 7 from rfl]
        exact ⟨hs, hbg, ih.co⟩
      · by_cases ha : k = a + 3
        · have eu : ub xs a k = 13 := by unfold ub; rw [if_neg h0, if_neg h1, if_neg h2, if_neg (by omega), if_pos ha]
          rw [eu]
          exact ⟨hs, hbg, ih.co⟩
        · have hb := ub_big hx (a := a) (show 3 ≤ k by omega) ha
          rw [at_big hb]
          exact ⟨hs, hbg, ih.co⟩
theorem u_tall {xs : List Int} (hx : ∀ x ∈ xs, 0 ≤ x ∧ x < 256) {a : Nat} (ha : a < 20) (o : Int) : tallF (uL xs a) o 40 = true := by
  rw [tall_any]
  rw [List.any_eq_true]
  refine ⟨a + 4, by rw [List.mem_range']; exact ⟨a + 4, by omega, by omega⟩, ?_⟩
  rw [(u_ce hx a o (show a + 4 < 40 by omega)).1, if_pos (by omega)]
  rfl
theorem pageL_get (P : Pg) (rev mix : Bool) {i : Nat} (hi : i < ((List.range 1000).map (pageC P rev mix)).length) : ((List.range 1000).map (pageC P rev mix))[i] = pageC P rev mix i := by simp
theorem page_rd (P : Pg) (rev mix : Bool) (i : Nat) (hi : i < 1000) : ((flat Cell.enc ((List.range 1000).map (pageC P rev mix))).drop (i * 10)).take 10 = (pageC P rev mix i).enc := by
  have h : i < ((List.range 1000).map (pageC P rev mix)).length := by simpa using hi
  rw [Cell.rd h, pageL_get P rev mix h]; rfl
theorem zg_len : (repl 25 (repl 40 [AV.int IntKind.i64 0, AV.int IntKind.i64 0, AV.int IntKind.i64 0, AV.bool false, AV.bool false, AV.bool false, AV.bool false, AV.bool false, AV.int IntKind.i64 0, AV.int IntKind.i64 0])).length = 1000 * 10 := by rw [zgrid, Cell.flen]; simp
theorem odd_made {x : Int} (h0 : 0 ≤ x) (h1 : x < 256) : oddI (makeOddI x) = true := byteB_get (p := fun x => oddI (makeOddI x)) (by decide +kernel) h0 h1
theorem made_and {x : Int} (h0 : 0 ≤ x) (h1 : x < 256) : bAnd .u8 (makeOddI x) 127 = bAnd .u8 x 127 := by
  simpa using byteB_get (p := fun x => bAnd .u8 (makeOddI x) 127 == bAnd .u8 x 127) (by decide +kernel) h0 h1
theorem Pg.row_setRow {p : Pg} (h : p.Ok) {r : Nat} {m : List Int} (hr : r < 25) (hm : m.length = 40) : (p.setRow r m).row r = m := by
  have e := h.rows
  have l1 : (p.rows.take (r * 40)).length = r * 40 := by simp; omega
  simp only [Pg.setRow, Pg.row]
  rw [List.drop_append, List.drop_eq_nil_of_le (by omega), l1, Nat.sub_self, List.drop_zero, List.nil_append, List.take_append_of_le_length (by omega), List.take_of_length_le (by omega)]
theorem const_no13 (v : Int) (hv : bAnd .u8 v 127 ≠ 13) (k : Nat) : bAnd .u8 ((List.replicate 40 v).getD k 32) 127 ≠ 13 := by
  rw [List.getD_eq_getElem?_getD, List.getElem?_replicate]
  split
  · exact hv
  · decide
def uB (xs : List Int) (a : Nat) : List Int := (uL xs a).map makeOddI
theorem uL_len (xs : List Int) (a : Nat) : (uL xs a).length = 40 := by simp [uL]
theorem uB_len (xs : List Int) (a : Nat) : (uB xs a).length = 40 := by simp [uB, uL_len]
theorem uB_rng (xs : List Int) (a : Nat) : ∀ x ∈ uB xs a, 0 ≤ x ∧ x < 256 := by
  intro x hx
  obtain ⟨k, _, rfl⟩ := List.mem_map.1 hx
  exact makeOddI_range _
theorem uB_get (xs : List Int) (a : Nat) {k : Nat} (hk : k < 40) : (uB xs a).getD k 0 = makeOddI (ub xs a k) := by simp [uB, uL, List.getD_eq_getElem?_getD, hk]
theorem mrg_u {xs : List Int} (hx : ∀ x ∈ xs, 0 ≤ x ∧ x < 256) (a : Nat) (old : List Int) (had : Bool) : mrg old (uB xs a) had = uL xs a := by
  unfold mrg uL
  apply List.map_congr_left
  intro k hk
  have hk := List.mem_range.1 hk
  have q := ub_ok hx a k
  rw [mrgE, uB_get xs a hk, if_pos (odd_made (by omega) (by omega)), made_and (by omega) (by omega), q.2.2]
theorem Pg.line_set {p : Pg} (h : p.Ok) {r : Nat} {m : List Int} (hr : r < 25) (hm : m.length = 40) {k : Nat} (hk : k < 25) : lineF ((p.setRow r m).setThere r true) k = if k = r then m else lineF p k := by
  have hth := h.there
  have hrw := h.rows
  unfold lineF
  have hc : ¬ ((k : Int) < 0 ∨ 24 < (k : Int)) := by omega
  rw [if_neg hc, if_neg hc]
  simp only [Int.toNat_natCast]
  have hi : ((p.setRow r m).setThere r true).is k = if k = r then true else p.is k := by
    show (p.there.set r true).getD k false = _
    rw [List.getD_eq_getElem?_getD, List.getElem?_set]
    by_cases b : r = k
    · subst b; simp [hth, hr]
    · rw [if_neg b, if_neg (fun x => b x.symm), Pg.is, List.getD_eq_getElem?_getD]
  by_cases b : k = r
  · rw [hi, if_pos b, if_pos b, if_pos rfl, b]
    exact Pg.row_setRow h hr hm
  · rw [hi, if_neg b, if_neg b]
    have e : ((p.setRow r m).setThere r true).row k = p.row k := by
      show ((p.rows.take (r * 40) ++ (m ++ p.rows.drop (r * 40 + 40))).drop (k * 40)).take 40 = (p.rows.drop (k * 40)).take 40
      apply List.ext_getElem?
      intro i
      by_cases hi40 : i < 40
      · rw [List.getElem?_take_of_lt hi40, List.getElem?_take_of_lt hi40, List.getElem?_drop, List.getElem?_drop]
        have l1 : (p.rows.take (r * 40)).length = r * 40 := by simp; omega
        by_cases c : k < r
        · rw [List.getElem?_append_left (by omega), List.getElem?_take_of_lt (by omega)]
        · rw [List.getElem?_append_right (by omega), List.getElem?_append_right (by omega), List.getElem?_drop]
          congr 1
          omega
      · rw [List.getElem?_eq_none (by simp; omega), List.getElem?_eq_none (by simp; omega)]
    rw [e]
theorem none_line {k : Nat} (hk : k < 25) : lineF Pg.none k = List.replicate 40 32 := by
  unfold lineF
  rw [if_neg (by omega)]
  simp only [Int.toNat_natCast]
  rw [if_neg (by rw [Pg.is, show Pg.none.there = List.replicate 25 false from rfl, List.getD_eq_getElem?_getD, List.getElem?_replicate_of_lt hk]; decide)]
def P1 (xs : List Int) (a r0 : Nat) : Pg := rowF Pg.none r0 (uB xs a)
def P2 (xs : List Int) (a r0 : Nat) (lw : List Int) : Pg := rowF (P1 xs a r0) ((r0 + 1 : Nat) : Int) lw
theorem P1_eq {xs : List Int} (hx : ∀ x ∈ xs, 0 ≤ x ∧ x < 256) (a : Nat) {r0 : Nat} (hr1 : 1 ≤ r0) (hr2 : r0 < 24) : P1 xs a r0 = (Pg.none.setRow r0 (uL xs a)).setThere r0 true := by
  unfold P1 rowF
  rw [if_neg (by omega)]
  simp only [Int.toNat_natCast]
  rw [mrg_u hx]
theorem P1_ok {xs : List Int} (hx : ∀ x ∈ xs, 0 ≤ x ∧ x < 256) (a : Nat) {r0 : Nat} (hr1 : 1 ≤ r0) (hr2 : r0 < 24) : (P1 xs a r0).Ok := by
  rw [P1_eq hx a hr1 hr2]
  exact Pg.setThere_ok (Pg.setRow_ok Pg.none_ok (by omega) (uL_len xs a))
theorem P2_eq {xs : List Int} (hx : ∀ x ∈ xs, 0 ≤ x ∧ x < 256) (a : Nat) {r0 : Nat} (hr1 : 1 ≤ r0) (hr2 : r0 < 24) (lw : List Int) : ∃ m : List Int, m.length = 40 ∧ P2 xs a r0 lw = ((P1 xs a r0).setRow (r0 + 1) m).setThere (r0 + 1) true := by
  unfold P2 rowF
  rw [if_neg (by omega)]
  simp only [Int.toNat_natCast]
  exact ⟨_, mrg_len _ _ _, rfl⟩
theorem P2_line {xs : List Int} (hx : ∀ x ∈ xs, 0 ≤ x ∧ x < 256) (a : Nat) {r0 : Nat} (hr1 : 1 ≤ r0) (hr2 : r0 < 24) (lw : List Int) {k : Nat} (hk : k ≤ r0) : lineF (P2 xs a r0 lw) k = if k = r0 then uL xs a else List.replicate 40 32 := by
  obtain ⟨m, hm, e⟩ := P2_eq hx a hr1 hr2 lw
  rw [e, Pg.line_set (P1_ok hx a hr1 hr2) (by omega) hm (by omega), if_neg (by omega), P1_eq hx a hr1 hr2, Pg.line_set Pg.none_ok (by omega) (uL_len xs a) (by omega)]
  by_cases b : k = r0
  · rw [if_pos b, if_pos b]
  · rw [if_neg b, if_neg b, none_line (by omega)]
theorem up_false {P : Pg} {xs : List Int} {a r0 : Nat} (hr2 : r0 < 24) (hline : ∀ k, k ≤ r0 → lineF P (k : Nat) = if k = r0 then uL xs a else List.replicate 40 32) : ∀ k, k ≤ r0 → upF P k = false
  | 0, _ => rfl
  | k + 1, hk => by
    unfold upF
    rw [up_false hr2 hline k (by omega), if_neg (by decide)]
    split
    · rfl
    · rw [hline k (by omega), if_neg (by omega)]
      exact tall_none _ _ (const_no13 32 (by decide)) 40
theorem tall_grid {P : Pg} {xs : List Int} (hx : ∀ x ∈ xs, 0 ≤ x ∧ x < 256) {a r0 : Nat} (ha : a < 20) (hr1 : 1 ≤ r0) (hr2 : r0 < 24) (he : P.extra = []) (hline : ∀ k, k ≤ r0 → lineF P (k : Nat) = if k = r0 then uL xs a else List.replicate 40 32) {k : Nat} (hk : k < 40) :
    gridF P (r0 * 40 + k) = ceF (uL xs a) (regF P) k ∧ gridF P ((r0 + 1) * 40 + k) = lowC (ceF (uL xs a) (regF P) k) := by
  have hu := up_false hr2 hline r0 (Nat.le_refl _)
  have hl : lineF P r0 = uL xs a := by rw [hline r0 (Nat.le_refl _), if_pos rfl]
  have hrow : (rowR P r0)[k]? = some (ceF (uL xs a) (regF P) k) := by
    rw [rowR, he, show spotsF [] (-1) = [] from rfl, layF_nil, hl, List.getElem?_eq_getElem (by rw [rowL_len]; exact hk), rowL_get, if_pos hk]
  have hg : gridR P r0 = rowR P r0 := by
    cases r0 with
    | zero => omega
    | succ r =>
      unfold gridR
      rw [hu, if_neg (by decide), if_neg (by omega)]
  have hu1 : upF P (r0 + 1) = true := by
    unfold upF
    rw [hu, if_neg (by decide), if_neg (by omega), hl]
    exact u_tall hx ha _
  have hg1 : gridR P (r0 + 1) = (gridR P r0).map lowC := by
    rw [gridR, if_pos hu1]
  constructor
  · rw [gridF, show (r0 * 40 + k) / 40 = r0 by omega, show (r0 * 40 + k) % 40 = k by omega, hg, List.getD_eq_getElem?_getD, hrow]; rfl
  · rw [gridF, show ((r0 + 1) * 40 + k) / 40 = r0 + 1 by omega, show ((r0 + 1) * 40 + k) % 40 = k by omega, hg1, hg, List.getD_eq_getElem?_getD, List.getElem?_map, hrow]; rfl
theorem tall_val {P : Pg} {xs : List Int} (hx : ∀ x ∈ xs, 0 ≤ x ∧ x < 256) {a r0 : Nat} (ha : a < 20) (hr1 : 1 ≤ r0) (hr2 : r0 < 24) (he : P.extra = []) (hF : P.hd = Hd.none) (hline : ∀ k, k ≤ r0 → lineF P (k : Nat) = if k = r0 then uL xs a else List.replicate 40 32) {k : Nat} (hk : k < 40) :
    ∃ X : Cell, X.high = (if a + 3 < k then 1 else 0) ∧ X.bg = (if k = 0 then 0 else 1) ∧ pageC P false false (r0 * 40 + k) = X ∧ pageC P false false ((r0 + 1) * 40 + k) = lowC X := by
  have hg := tall_grid hx ha hr1 hr2 he hline hk
  have hc := u_ce hx a (regF P) hk
  have hb : ∀ i, baseC P i = gridF P i := fun i => by
    rw [baseC, hF]
    have : hidB Hd.none (i / 40) = false := by unfold hidB; split <;> rfl
    rw [this, if_neg (by decide)]
  have hs : ∀ c : Cell, c.conceal = false → shownC c false false false = c := fun c h => by
    unfold shownC; simp [h]
  have hl : ∀ c : Cell, c.conceal = false → (lowC c).conceal = false := fun c h => by
    unfold lowC; split
    · exact h
    · rfl
  refine ⟨ceF (uL xs a) (regF P) k, hc.1, hc.2.1, ?_, ?_⟩
  · rw [pageC, hb, hF, hg.1]
    exact hs _ hc.2.2
  · rw [pageC, hb, hF, hg.2]
    exact hs _ (hl _ hc.2.2)
def U (xs : List Int) (a k : Nat) : List AV := ((List.range k).map (ub xs a)).map (.int .u8)
theorem U_len (xs : List Int) (a k : Nat) : (U xs a k).length = k := by simp [U]
theorem U_more (xs : List Int) (a k : Nat) : U xs a k ++ [.int .u8 (ub xs a k)] = U xs a (k + 1) := by
  unfold U; rw [List.range_succ, List.map_append, List.map_append]; rfl
theorem U_three (xs : List Int) (a : Nat) : U xs a 3 = [.int .u8 1, .int .u8 29, .int .u8 7] := rfl
theorem ub_n {xs : List Int} {a i : Nat} (h : i < a) : ub xs a (3 + i) = 110 := by
  unfold ub; rw [if_neg (by omega), if_neg (by omega), if_neg (by omega), if_pos (by omega)]
theorem ub_13 {xs : List Int} {a : Nat} : ub xs a (a + 3) = 13 := by
  unfold ub
  by_cases h0 : a + 3 = 0
  · omega
  · rw [if_neg h0, if_neg (by omega), if_neg (by omega), if_neg (by omega), if_pos rfl]
theorem ub_t {xs : List Int} {a i : Nat} (h : i < xs.length) : ub xs a (a + 4 + i) = bOr .u8 (bAnd .u8 (xs.getD i 0) 95) 32 := by
  unfold ub; rw [if_neg (by omega), if_neg (by omega), if_neg (by omega), if_neg (by omega), if_neg (by omega), if_pos (by omega), show a + 4 + i - (a + 4) = i by omega]; rfl
theorem ub_sp {xs : List Int} {a k : Nat} (h : a + 4 + xs.length ≤ k) : ub xs a k = 32 := by
  unfold ub; rw [if_neg (by omega), if_neg (by omega), if_neg (by omega), if_neg (by omega), if_neg (by omega), if_neg (by omega)]
/-- The bytes while their parity is set one after the other. -/
def VL (xs : List Int) (a k n : Nat) : List Int := (List.range n).map (fun j => if j < k then makeOddI (ub xs a j) else ub xs a j)
theorem VL_len (xs : List Int) (a k n : Nat) : (VL xs a k n).length = n := by simp [VL]
theorem VL_zero (xs : List Int) (a n : Nat) : U xs a n = (VL xs a 0 n).map (.int .u8) := by simp [U, VL]
theorem VL_at (xs : List Int) (a n : Nat) {k : Nat} (hk : k < n) : ((VL xs a k n).map (AV.int .u8))[k]? = some (.int .u8 (ub xs a k)) := by
  simp [VL, hk]
theorem VL_set (xs : List Int) (a n : Nat) {k : Nat} (hk : k < n) : (VL xs a k n).set k (makeOddI (ub xs a k)) = VL xs a (k + 1) n := by
  apply List.ext_getElem?
  intro j
  rw [List.getElem?_set, VL_len]
  by_cases b : k = j
  · subst b
    simp [VL, hk]
  · rw [if_neg b]
    by_cases hj : j < n
    · have : (j < k + 1) ↔ j < k := by omega
      simp [VL, hj, this]
    · simp [VL, hj]
/-- The bytes with their parity, as they are filled up. -/
def W (xs : List Int) (a k : Nat) : List AV := ((List.range k).map (fun j => makeOddI (ub xs a j))).map (.int .u8)
theorem W_len (xs : List Int) (a k : Nat) : (W xs a k).length = k := by simp [W]
theorem W_more (xs : List Int) (a k : Nat) : W xs a k ++ [.int .u8 (makeOddI (ub xs a k))] = W xs a (k + 1) := by
  unfold W; rw [List.range_succ, List.map_append, List.map_append]; rfl
theorem VL_full (xs : List Int) (a n : Nat) : (VL xs a n n).map (AV.int .u8) = W xs a n := by
  unfold VL W
  congr 1
  apply List.map_congr_left
  intro j hj
  rw [if_pos (List.mem_range.1 hj)]
theorem W_all (xs : List Int) (a : Nat) : W xs a 40 = (uB xs a).map (.int .u8) := by
  unfold W uB uL; rw [List.map_map (f := ub xs a)]; rfl
/-- The bytes of the lower row, while they are set one after the other. -/
def lowE (us : List Int) (j : Nat) : Int := if j < us.length then makeOddI (us.getD j 0) else makeOddI 65
def LL (us : List Int) (k : Nat) : List Int := (List.range 40).map (fun j => if j < k then lowE us j else 0)
theorem LL_len (us : List Int) (k : Nat) : (LL us k).length = 40 := by simp [LL]
theorem LL_zero (us : List Int) : (List.replicate 40 (0 : Int)) = LL us 0 := by simp [LL, List.replicate_succ, List.range_succ]
theorem LL_set (us : List Int) {k : Nat} (hk : k < 40) : (LL us k).set k (lowE us k) = LL us (k + 1) := by
  apply List.ext_getElem?
  intro j
  rw [List.getElem?_set, LL_len]
  by_cases b : k = j
  · subst b
    simp [LL, hk]
  · rw [if_neg b]
    by_cases hj : j < 40
    · have : (j < k + 1) ↔ j < k := by omega
      simp [LL, hj, this]
    · simp [LL, hj]
theorem LL_rng (us : List Int) : ∀ x ∈ LL us 40, 0 ≤ x ∧ x < 256 := by
  intro x hx
  obtain ⟨k, hk, rfl⟩ := List.mem_map.1 hx
  rw [if_pos (List.mem_range.1 hk)]
  unfold lowE
  split <;> exact makeOddI_range _
attribute [local irreducible] LL
attribute [local irreducible] U VL W
attribute [local irreducible] Pg.enc Hd.enc P1 P2 pageC gridF flat ub makeOddI
theorem main (row : Int) (xs us : List Int) (at' : Int) (hx : ∀ x ∈ xs, 0 ≤ x ∧ x < 256) (hu : ∀ x ∈ us, 0 ≤ x ∧ x < 256) : callω L T 7 0 [.int .i64 row, .isl 1 xs.length (xs.map (.int .u8)), .isl 1 us.length (us.map (.int .u8)), .int .i64 at'] [none, none, none, none] = some (.bool true, [none, none, none, none]) := by
  rw [call_ex (show T 7 = some (.code a7) from rfl) rfl rfl]
  have tn := t_Number (0 + 1) row 23 (by omega) (by omega)
  have tn2 := t_Number (0 + 1) at' 20 (by omega) (by omega)
  obtain ⟨r0, hrr, hr1, hr2⟩ : ∃ r : Nat, IntKind.i64.wrap (row % 23 + 1) = (r : Int) ∧ 1 ≤ r ∧ r < 24 := by
    rw [w_i64 (by omega) (by omega)]
    exact ⟨(row % 23 + 1).toNat, by omega, by omega, by omega⟩
  obtain ⟨a, haa, ha⟩ : ∃ q : Nat, at' % 20 = (q : Int) ∧ q < 20 := ⟨(at' % 20).toNat, by omega, by omega⟩
  rw [haa] at tn2
  by_cases h1 : 15 < xs.length
  · (have c1 := fun x1 => t_law17_first x1; have c2 := tn; have c3 := tn2; refine gox ?_; clear c1 c2 c3)
    (refine finx ?_; try with_reducible rfl)
    try rfl
  by_cases h2 : 40 < us.length
  · (have c1 := fun x1 => t_law17_first x1; have c2 := tn; have c3 := tn2; refine gox ?_; clear c1 c2 c3)
    (refine finx ?_; try with_reducible rfl)
    try rfl
  (have c1 := fun x1 => t_law17_first x1; have c2 := tn; have c3 := tn2; refine gox ?_; clear c1 c2 c3)
  refine Eq.trans (head_eq (env' := [(0, .int .i64 r0), (1, .isl 1 xs.length (xs.map (.int .u8))), (2, .isl 1 us.length (us.map (.int .u8))), (3, .int .i64 a), (9, .bool true), (10, .msl 39 (0, 1) 1 0 (3 + 0)), (11, .int .i64 ((0 : Nat) : Int))]) (heap' := [(39, ⟨(0, 1), U xs a (3 + 0)⟩)]) (by rw [hrr]; rfl) (by rw [show U xs a (3 + 0) = U xs a 3 from rfl, U_three]; rfl) rfl) ?_
  clear tn tn2
  refine headX_for (fun _ (_ : Nat × Nat) => True) (fun i (x : Nat × Nat) => ⟨[(0, .int .i64 r0), (1, .isl 1 xs.length (xs.map (.int .u8))), (2, .isl 1 us.length (us.map (.int .u8))), (3, .int .i64 a), (9, .bool true), (10, .msl 39 (0, x.1) 1 0 (3 + i)), (11, .int .i64 i)], [(39, ⟨(0, x.1), U xs a (3 + i)⟩)], x.2, 0⟩) a _ ?_ ?_ (1, 1 + 1) trivial
  · rintro i ⟨g, nx⟩ hi - ih
    dsimp only at ih ⊢
    refine Eq.trans ?_ (ih (nx + 1, nx + 1 + 1) trivial)
    have l1 := U_len xs a (3 + i)
    have m1 := U_more xs a (3 + i)
    rw [ub_n hi] at m1
    clear ih
    rw [show 3 + (i + 1) = 3 + i + 1 from rfl]
    generalize U xs a (3 + i + 1) = c2 at *
    generalize U xs a (3 + i) = c1 at *
    (have fA := And.intro @l1 (@List.drop_zero AV); refine gox ?_; clear fA)
    refine head_eq ?_ (by rw [← m1]; rfl) rfl
    simp [wrap_succ hi (by omega)]
  · rintro ⟨g, nx⟩ -
    dsimp only
    have l1 := U_len xs a (3 + a)
    have m1 := U_more xs a (a + 3)
    rw [ub_13, show a + 3 = 3 + a by omega] at m1
    generalize U xs a (3 + a) = c1 at *
    (have fA := And.intro @l1 (@List.drop_zero AV); refine gox ?_; clear fA)
    refine Eq.trans (head_eq (env' := [(0, .int .i64 r0), (1, .isl 1 xs.length (xs.map (.int .u8))), (2, .isl 1 us.length (us.map (.int .u8))), (3, .int .i64 a), (9, .bool true), (10, .msl 39 (0, nx + 1) 1 0 (3 + a + 1 + 0)), (12, .int .i64 ((0 : Nat) : Int))]) (heap' := [(39, ⟨(0, nx + 1), U xs a (3 + a + 1 + 0)⟩)]) rfl (by rw [show U xs a (3 + a + 1 + 0) = U xs a (3 + a + 1) from rfl, ← m1]; rfl) rfl) ?_
    clear l1 m1 c1
    generalize nx + 1 = nx0
    refine headX_for (fun _ (_ : Nat × Nat) => True) (fun i (x : Nat × Nat) => ⟨[(0, .int .i64 r0), (1, .isl 1 xs.length (xs.map (.int .u8))), (2, .isl 1 us.length (us.map (.int .u8))), (3, .int .i64 a), (9, .bool true), (10, .msl 39 (0, x.1) 1 0 (3 + a + 1 + i)), (12, .int .i64 i)], [(39, ⟨(0, x.1), U xs a (3 + a + 1 + i)⟩)], x.2, 0⟩) xs.length _ ?_ ?_ (nx0, nx0 + 1) trivial
    · rintro i ⟨g, nx⟩ hi - ih
      dsimp only at ih ⊢
      refine Eq.trans ?_ (ih (nx + 1, nx + 1 + 1) trivial)
      have l1 := U_len xs a (3 + a + 1 + i)
      have m1 := U_more xs a (3 + a + 1 + i)
      have hg : (xs.map (AV.int .u8))[i]? = some (.int .u8 (xs.getD i 0)) := by rw [List.getElem?_map, List.getElem?_eq_getElem hi, List.getD_eq_getElem?_getD, List.getElem?_eq_getElem hi]; rfl
      rw [show 3 + a + 1 + i = a + 4 + i by omega, ub_t hi] at m1
      clear ih
      rw [show 3 + a + 1 + (i + 1) = a + 4 + i + 1 by omega]
      rw [show 3 + a + 1 + i = a + 4 + i by omega] at l1 ⊢
      generalize U xs a (a + 4 + i + 1) = c2 at *
      generalize U xs a (a + 4 + i) = c1 at *
      (have fA := And.intro @l1 (And.intro @hg (@List.drop_zero AV)); refine gox ?_; clear fA)
      refine head_eq ?_ (by rw [← m1]; rfl) rfl
      simp [wrap_succ hi (by omega)]
    · rintro ⟨g, nx⟩ -
      dsimp only
      rw [show 3 + a + 1 + xs.length = a + 4 + xs.length by omega]
      have l1 := U_len xs a (a + 4 + xs.length)
      (have fA := And.intro @l1 (@List.drop_zero AV); refine gox ?_; clear fA)
      clear l1
      generalize hm : a + 4 + xs.length = m
      refine Eq.trans (head_eq (env' := [(0, .int .i64 r0), (2, .isl 1 us.length (us.map (.int .u8))), (3, .int .i64 a), (9, .bool true), (10, .msl 39 (0, g) 1 0 m), (13, .int .i64 ((0 : Nat) : Int))]) (heap' := [(39, ⟨(0, g), (VL xs a 0 m).map (.int .u8)⟩)]) rfl (by rw [VL_zero]) rfl) ?_
      refine headX_for (fun _ (_ : Unit) => True) (fun i (_ : Unit) => ⟨[(0, .int .i64 r0), (2, .isl 1 us.length (us.map (.int .u8))), (3, .int .i64 a), (9, .bool true), (10, .msl 39 (0, g) 1 0 m), (13, .int .i64 i)], [(39, ⟨(0, g), (VL xs a i m).map (.int .u8)⟩)], nx, 0⟩) m _ ?_ ?_ () trivial
      · rintro i ⟨⟩ hi - ih
        try dsimp only at ih ⊢
        refine Eq.trans ?_ (ih () trivial)
        clear ih
        have l1 := VL_len xs a i m
        have hg := VL_at xs a m hi
        have hs : setR ((VL xs a i m).map (AV.int .u8)) i [.int .u8 (makeOddI (ub xs a i))] = (VL xs a (i + 1) m).map (.int .u8) := by
          rw [setR_int (by omega), VL_set xs a m hi]
        have tm := t_ref1_MakeOdd (0 + 1) (ub xs a i)
        generalize (VL xs a (i + 1) m).map (AV.int .u8) = c2 at *
        have l3 : ((VL xs a i m).map (AV.int .u8)).length = m := by rw [List.length_map, l1]
        generalize (VL xs a i m).map (AV.int .u8) = c1 at *
        (have fA := And.intro @l3 (And.intro @hg (And.intro @hs @Nat.mul_one)); have c1 := tm; refine gox ?_; clear fA c1)
        refine head_eq ?_ rfl rfl
        simp [wrap_succ hi (by omega)]
      · rintro ⟨⟩ -
        try dsimp only
        rw [VL_full]
        have l1 := W_len xs a m
        have tm := t_ref1_MakeOdd (0 + 1) 32
        (have fA := And.intro @l1 (@List.drop_zero AV); refine gox ?_; clear fA)
        clear l1
        have hm40 : m < 40 := by omega
        refine Eq.trans (head_eq (env' := [(0, .int .i64 r0), (2, .isl 1 us.length (us.map (.int .u8))), (3, .int .i64 a), (9, .bool true), (10, .msl 39 (0, g) 1 0 (m + 0))]) (heap' := [(39, ⟨(0, g), W xs a (m + 0)⟩)]) rfl rfl rfl) ?_
        refine headX_for (fun _ (_ : Nat × Nat) => True) (fun i (x : Nat × Nat) => ⟨[(0, .int .i64 r0), (2, .isl 1 us.length (us.map (.int .u8))), (3, .int .i64 a), (9, .bool true), (10, .msl 39 (0, x.1) 1 0 (m + i))], [(39, ⟨(0, x.1), W xs a (m + i)⟩)], x.2, 0⟩) (40 - m) _ ?_ ?_ (g, nx) trivial
        · rintro i ⟨g, nx⟩ hi - ih
          try dsimp only at ih ⊢
          refine Eq.trans ?_ (ih (nx + 1, nx + 1 + 1) trivial)
          clear ih
          have hi4 : m + i < 40 := by omega
          have l1 := W_len xs a (m + i)
          have m1 := W_more xs a (m + i)
          rw [ub_sp (by omega)] at m1
          rw [show m + (i + 1) = m + i + 1 from rfl]
          generalize W xs a (m + i + 1) = c2 at *
          generalize W xs a (m + i) = c1 at *
          generalize m + i = q at *
          (have fA := And.intro @l1 (@List.drop_zero AV); have c1 := tm; refine gox ?_; clear fA c1)
          refine head_eq rfl (by rw [← m1]; rfl) rfl
        · rintro ⟨g, nx⟩ -
          try dsimp only
          rw [show m + (40 - m) = 40 by omega, W_all]
          have l1 : ((uB xs a).map (AV.int .u8)).length = 40 := by rw [List.length_map, uB_len]
          (have fA := And.intro @l1 (@List.drop_zero AV); refine gox ?_; clear fA)
          have gu : ∀ i, i < us.length → (us.map (AV.int .u8))[i]? = some (.int .u8 (us.getD i 0)) := fun i hi => by rw [List.getElem?_map, List.getElem?_eq_getElem hi, List.getD_eq_getElem?_getD, List.getElem?_eq_getElem hi]; rfl
          refine Eq.trans (head_eq (env' := [(0, .int .i64 r0), (2, .isl 1 us.length (us.map (.int .u8))), (3, .int .i64 a), (9, .bool true), (10, .msl 39 (0, g) 1 0 40), (14, .msl 87 (0, nx) 1 0 40), (15, .int .i64 ((0 : Nat) : Int))]) (heap' := [(39, ⟨(0, g), (uB xs a).map (.int .u8)⟩), (87, ⟨(0, nx), (LL us 0).map (.int .u8)⟩)]) rfl (by rw [← LL_zero]; rfl) rfl) ?_
          refine headX_for (fun _ (_ : Unit) => True) (fun i (_ : Unit) => ⟨[(0, .int .i64 r0), (2, .isl 1 us.length (us.map (.int .u8))), (3, .int .i64 a), (9, .bool true), (10, .msl 39 (0, g) 1 0 40), (14, .msl 87 (0, nx) 1 0 40), (15, .int .i64 i)], [(39, ⟨(0, g), (uB xs a).map (.int .u8)⟩), (87, ⟨(0, nx), (LL us i).map (.int .u8)⟩)], nx + 1, 0⟩) 40 _ ?_ ?_ () trivial
          · rintro i ⟨⟩ hi - ih
            try dsimp only at ih ⊢
            refine Eq.trans ?_ (ih () trivial)
            clear ih
            have l2 := LL_len us i
            have l3 : ((LL us i).map (AV.int .u8)).length = 40 := by rw [List.length_map, l2]
            have hs1 : setR ((LL us i).map (AV.int .u8)) i [.int .u8 (makeOddI 65)] = ((LL us i).set i (makeOddI 65)).map (.int .u8) := setR_int (by omega)
            have tm1 := t_ref1_MakeOdd (0 + 1) 65
            by_cases hu1 : i < us.length
            · have gu := gu i hu1
              have tm2 := t_ref1_MakeOdd (0 + 1) (us.getD i 0)
              have hs2 : setR (((LL us i).set i (makeOddI 65)).map (AV.int .u8)) i [.int .u8 (makeOddI (us.getD i 0))] = (LL us (i + 1)).map (.int .u8) := by
                rw [setR_int (by simp; omega), List.set_set, ← LL_set us hi]; unfold lowE; rw [if_pos hu1]
              have l4 : (((LL us i).set i (makeOddI 65)).map (AV.int .u8)).length = 40 := by simp [l2]
              generalize ((LL us i).set i (makeOddI 65)).map (AV.int .u8) = c3 at *
              generalize (LL us (i + 1)).map (AV.int .u8) = c2 at *
              generalize (LL us i).map (AV.int .u8) = c1 at *
              (have fA := And.intro @l1 (And.intro @l3 (And.intro @l4 (And.intro @hs1 (And.intro @hs2 (And.intro @gu @Nat.mul_one))))); have c1 := tm1; have c2 := tm2; refine gox ?_; clear fA c1 c2)
              refine head_eq ?_ rfl rfl
              simp [wrap_succ hi (by omega)]
            · have e : ((LL us i).set i (makeOddI 65)) = LL us (i + 1) := by rw [← LL_set us hi]; unfold lowE; rw [if_neg hu1]
              rw [e] at hs1
              generalize (LL us (i + 1)).map (AV.int .u8) = c2 at *
              generalize (LL us i).map (AV.int .u8) = c1 at *
              (have fA := And.intro @l1 (And.intro @l3 (And.intro @hs1 @Nat.mul_one)); have c1 := tm1; refine gox ?_; clear fA c1)
              refine head_eq ?_ rfl rfl
              simp [wrap_succ hi (by omega)]
          · rintro ⟨⟩ -
            try dsimp only
            have tR1 := t_page_Row (0 + 1) Pg.none Pg.none_ok (x := .nsl) (Or.inr ⟨rfl, rfl⟩) (by decide) r0 (uB xs a) (by rw [uB_len]; omega) (uB_rng xs a)
            rw [uB_len, show rowF Pg.none r0 (uB xs a) = P1 xs a r0 from by unfold P1; rfl] at tR1
            have o1 := P1_ok hx a hr1 hr2
            have e1 : (P1 xs a r0).extra = [] := by rw [P1_eq hx a hr1 hr2]; rfl
            have tR2 := t_page_Row (0 + 1) (P1 xs a r0) o1 (x := .isl 3 ([] : List Tr).length (flat Tr.enc [])) (Or.inl (by rw [e1])) (by rw [e1]; decide) ((r0 + 1 : Nat) : Int) (LL us 40) (by rw [LL_len]; omega) (LL_rng us)
            rw [LL_len, show rowF (P1 xs a r0) ((r0 + 1 : Nat) : Int) (LL us 40) = P2 xs a r0 (LL us 40) from by unfold P2; rfl] at tR2
            obtain ⟨m2, hm2, eq2⟩ := P2_eq hx a hr1 hr2 (LL us 40)
            have o2 : (P2 xs a r0 (LL us 40)).Ok := by rw [eq2]; exact Pg.setThere_ok (Pg.setRow_ok o1 (by omega) hm2)
            have e2 : (P2 xs a r0 (LL us 40)).extra = [] := by rw [eq2]; exact e1
            have h2' : (P2 xs a r0 (LL us 40)).hd = Hd.none := by rw [eq2]; show (P1 xs a r0).hd = _; rw [P1_eq hx a hr1 hr2]; rfl
            rw [show Pg.none.extra = [] from rfl] at tR1
            rw [e1] at tR2
            have t1 := t_Page (0 + 1) _ o2 (x := .isl 3 ([] : List Tr).length (flat Tr.enc [])) (Or.inl (by rw [e2])) (by rw [e2]; decide) false false
            have hline := fun k (hk : k ≤ r0) => P2_line hx a hr1 hr2 (LL us 40) hk
            have tv := fun k (hk : k < 40) => tall_val hx ha hr1 hr2 e2 h2' hline hk
            have oz := Pg.none_ok
            have L0 := Pg.len (x := .nsl) oz
            have W0 := Pg.whole (x := .nsl) oz
            have L1 := Pg.len (x := .isl 3 ([] : List Tr).length (flat Tr.enc [])) o1
            have W1 := Pg.whole (x := .isl 3 ([] : List Tr).length (flat Tr.enc [])) o1
            have S1 := Pg.put_all (x := .nsl) (y := .isl 3 ([] : List Tr).length (flat Tr.enc [])) oz o1
            have L2 := Pg.len (x := .isl 3 ([] : List Tr).length (flat Tr.enc [])) o2
            have W2 := Pg.whole (x := .isl 3 ([] : List Tr).length (flat Tr.enc [])) o2
            have S2 := Pg.put_all (x := .isl 3 ([] : List Tr).length (flat Tr.enc [])) (y := .isl 3 ([] : List Tr).length (flat Tr.enc [])) o1 o2
            have lu : ((uB xs a).map (AV.int .u8)).length = 40 := by rw [List.length_map, uB_len]
            have ll : ((LL us 40).map (AV.int .u8)).length = 40 := by rw [List.length_map, LL_len]
            have tku : ((uB xs a).map (AV.int .u8)).take 40 = (uB xs a).map (.int .u8) := List.take_of_length_le (by omega)
            have tkl : ((LL us 40).map (AV.int .u8)).take 40 = (LL us 40).map (.int .u8) := List.take_of_length_le (by omega)
            have wr : IntKind.i64.wrap ((r0 : Int) + 1) = (r0 : Int) + 1 := w_i64 (by omega) (by omega)
            rw [show ((r0 + 1 : Nat) : Int) = (r0 : Int) + 1 from rfl, ← wr] at tR2
            generalize P2 xs a r0 (LL us 40) = Q2 at *
            generalize P1 xs a r0 = Q1 at *
            clear hline eq2
            have n1 := Cell.flen ((List.range 1000).map (pageC Q2 false false))
            rw [List.length_map, List.length_range] at n1
            have rd1 := fun i hi => page_rd Q2 false false i hi
            generalize flat Cell.enc ((List.range 1000).map (pageC Q2 false false)) = G1 at *
            generalize Q2.enc (.isl 3 ([] : List Tr).length (flat Tr.enc [])) = cQ2 at *
            generalize Q1.enc (.isl 3 ([] : List Tr).length (flat Tr.enc [])) = cQ1 at *
            generalize (uB xs a).map (AV.int .u8) = cU at *
            generalize (LL us 40).map (AV.int .u8) = cL at *
            have sG1 : setR (repl 25 (repl 40 [AV.int IntKind.i64 0, AV.int IntKind.i64 0, AV.int IntKind.i64 0, AV.bool false, AV.bool false, AV.bool false, AV.bool false, AV.bool false, AV.int IntKind.i64 0, AV.int IntKind.i64 0])) 0 G1 = G1 := setR_all (by rw [n1, zg_len])
            (have fA := And.intro @Pg.zero_eq (And.intro @L0 (And.intro @W0 (And.intro @S1 (And.intro @L1 (And.intro @W1 (And.intro @S2 (And.intro @L2 (And.intro @W2 (And.intro @lu (And.intro @ll (And.intro @tku (And.intro @tkl (And.intro @sG1 (@List.drop_zero AV)))))))))))))); have c1 := tR1; have c2 := tR2; have c3 := t1; refine gox ?_; clear fA c1 c2 c3)
            clear tR1 tR2 t1 L0 W0 L1 W1 L2 W2 lu ll tku tkl sG1 e2 h2' o2 oz gu tm
            have wa : IntKind.i64.wrap ((a : Int) + 3) = (a : Int) + 3 := w_i64 (by omega) (by omega)
            have tn : (IntKind.i64.wrap ((r0 : Int) + 1)).toNat = r0 + 1 := by rw [wr]; omega
            refine headX_upN (fun c nz => ⟨[(0, .int .i64 r0), (3, .int .i64 a), (9, .bool true), (17, .ref 17 (0, nx + 1 + 1) 0), (18, .int .i64 c)], [(17, ⟨(0, nx + 1 + 1), G1⟩)], nz, 0⟩) 40 _ ?_ ?_ 0 _ (by omega)
            · intro c nz hc
              refine ⟨nz + 2, ?_⟩
              obtain ⟨⟨x0, x1, x2, x3, x4, x5, x6, x7, x8, x9⟩, hX1, hX2, hp1, hp2⟩ := tv c hc
              have ra := rd1 (r0 * 40 + c) (by omega)
              have rb := rd1 ((r0 + 1) * 40 + c) (by omega)
              clear rd1 tv
              rw [hp1, show (r0 * 40 + c) * 10 = r0 * 400 + c * 10 by omega] at ra
              rw [hp2, show ((r0 + 1) * 40 + c) * 10 = (r0 + 1) * 400 + c * 10 by omega] at rb
              clear hp1 hp2
              dsimp only at hX1 hX2
              have hb : x2 = if (1 : Int) < (c : Int) then 1 else (c : Int) := by
                rw [hX2]
                by_cases q : c = 0
                · rw [if_pos q, if_neg (by omega)]; omega
                · rw [if_neg q]
                  by_cases q1 : (1 : Int) < (c : Int)
                  · rw [if_pos q1]
                  · rw [if_neg q1]; omega
              clear hX2
              by_cases ht : a + 3 < c
              · rw [if_pos ht] at hX1
                subst hX1
                unfold lowC at rb
                rw [if_pos rfl] at rb
                simp only [Cell.enc] at ra rb
                have hq : (decide ((1 : Int) = 1) == decide ((c : Int) > IntKind.i64.wrap ((a : Int) + 3))) = true := by rw [wa, decide_eq_true (show (c : Int) > (a : Int) + 3 by omega)]; rfl
                have hd : decide (IntKind.i64.wrap ((a : Int) + 3) < (c : Int)) = true := by rw [wa, decide_eq_true (show (a : Int) + 3 < c by omega)]
                (have fA := And.intro @ra (And.intro @rb (And.intro @n1 @tn)); refine gox ?_; clear fA)
                refine head_eq ?_ rfl rfl
                simp [wrap_succ hc (by omega)]
              · rw [if_neg ht] at hX1
                subst hX1
                unfold lowC at rb
                rw [if_neg (show ¬ (0 : Int) = 1 by decide)] at rb
                simp only [Cell.enc, bk] at ra rb
                have hq : (decide ((0 : Int) = 1) == decide ((c : Int) > IntKind.i64.wrap ((a : Int) + 3))) = true := by rw [wa, decide_eq_false (show ¬ (c : Int) > (a : Int) + 3 by omega)]; rfl
                have hd : decide (IntKind.i64.wrap ((a : Int) + 3) < (c : Int)) = false := by rw [wa, decide_eq_false (show ¬ (a : Int) + 3 < c by omega)]
                (have fA := And.intro @ra (And.intro @rb (And.intro @n1 @tn)); refine gox ?_; clear fA)
                refine head_eq ?_ rfl rfl
                simp [wrap_succ hc (by omega)]
            · intro nz
              (refine gox ?_)
              (refine finx ?_; try with_reducible rfl)
              try rfl
theorem law (cs : List AV) (h : ShpAll L 5 Try.f7.params.toList cs) : ∃ lent, callω L T 7 0 cs (List.replicate Try.f7.params.toList.length none) = some (.bool true, lent) := by
  rw [Try.params7] at h
  obtain ⟨row, _, rfl, _, h1⟩ := shpAll_int rfl h
  obtain ⟨p1, _, rfl, _, hp1, h2⟩ := shpAll_slice rfl rfl h1
  obtain ⟨p2, _, rfl, _, hp2, h3⟩ := shpAll_slice rfl rfl h2
  obtain ⟨a, _, rfl, _, h4⟩ := shpAll_int rfl h3
  obtain rfl := shpAll_nil h4
  obtain ⟨xs, e1, e2, e5⟩ := ints_of_parts (n := 3) rfl p1 hp1
  obtain ⟨us, e3, e4, e6⟩ := ints_of_parts (n := 3) rfl p2 hp2
  rw [e1, ← e2, e3, ← e4]
  exact ⟨_, main row xs us a (fun x hx => by obtain ⟨m, rfl, hm⟩ := u8_wf (e5 x hx); omega) (fun x hx => by obtain ⟨m, rfl, hm⟩ := u8_wf (e6 x hx); omega)⟩

open Go.ChangeShapes Go.WideShapes Go.ChangeAt Go.RowKit
theorem lifted (os : Os) (started : os.Started) (H : Type) (enc : TypeId × Value → H) :
    ReturnsInHanded {} Try.checked os 7 .any (Rows.renderTallSpec.pre6 enc Try.prog Try.f7 Rows.renderTallRow.domain false) (Rows.renderTallSpec.post enc Try.prog Try.f7 false true false false) := by
  refine law_lift (C := Try.checked) (n := 5) own started (by kernel_rfl) Try.func7 L_ok T_ok (show T 7 = some (.code a7) from rfl) laid (by kernel_rfl) rfl Try.underlying4 rfl ?_ law
    (ChangeSpec.witness6 (enc := enc) (C := Try.checked) false ⟨#[], #[.int .i64 0, .slice none 0 0, .slice none 0 0, .int .i64 0], []⟩ 8 (by kernel_rfl) (by kernel_rfl) (by kernel_rfl) (by kernel_rfl))
  intro H ds hl
  rw [Try.params7] at hl
  match ds, hl with
  | [d1, d2, d3, d4], _ => rfl

theorem over : Rows.renderTallRow.holds Try.pinned (OpenSpec.ofChange Rows.renderTallSpec) :=
  OpenClaim.holds_of_wide 7 Try.f7 rfl rfl rfl rfl rfl rfl rfl ⟨rfl, rfl, rfl, rfl, rfl⟩ rfl rfl rfl rfl rfl (by kernel_rfl) Try.func7 (by kernel_rfl)
    (of_decide_eq_true (by kernel_rfl)) (by unfold Func.isWrapper; first | (rw [if_pos (by decide +kernel)]; kernel_rfl) | (rw [if_neg (by decide +kernel)]; exact ⟨rfl, rfl⟩))
    (fun os started H enc _ => lifted os started H enc)

theorem proved : Rows.RenderTallSaid :=
  over
#print axioms proved
end Go.Proofs.Ytkienchmbfhigaa.renderTall
