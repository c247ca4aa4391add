/- RenderBoxes: of a page for boxes alone what stands in a box is seen, and nothing beside it; mixed, its ground is left. No condition. -/
import Derived.Test.YtkienchmbfhigaaRows
import Derived.Test.YtkienchmbfhigaaSimT
import Derived.Test.YtkienchmbfhigaaSimY
import Derived.Test.YtkienchmbfhigaaPrender5
import Derived.Test.YtkienchmbfhigaaPattr5
set_option maxRecDepth 100000
set_option maxHeartbeats 40000000
set_option linter.unusedSimpArgs false
set_option linter.unusedVariables false
namespace Go.Proofs.Ytkienchmbfhigaa.renderBoxes
open Go Go.Sim
attribute [local irreducible] chk brX getX strX setX takeX normX fillX lendX partsX opsX callK lentK giveX adoptX resX joinX headX loopX seqK blkK regK finX exOps ex eqT
attribute [local simp] setR_int setR_bool setR_zero setR_succ repl_int repl_bool List.getElem?_cons_zero List.getElem?_cons_succ List.getElem?_nil w_i64 w_u64 w_u8 bAnd_u8 bOr_u8 bXor_u8 bAndNot_u8 bShl_u8 wrap_u8_range all_plain_int all_plain_bool all_plain_app pl_bool pl_int pl_str pl_nilp pl_nsl pl_nilI pl_nilF take_map_len AV.cells TI.isAgg

attribute [local simp] Cell.flen Cell.rd Cell.g0 Cell.g1 Cell.g2 Cell.g3 Cell.g4 Cell.g5 Cell.g6 Cell.g7 Cell.g8 Cell.g9 Cell.put Cell.pute Cell.s0 Cell.s1 Cell.s2 Cell.s3 Cell.s4 Cell.s5 Cell.s6 Cell.s7 Cell.s8 Cell.s9 Cell.zero Cell.enc Tr.flen Tr.rd Tr.g0 Tr.g1 Tr.g2 Tr.put Tr.pute Tr.s0 Tr.s1 Tr.s2 Tr.zero Tr.enc Hd.flen Hd.rd Hd.g0 Hd.g1 Hd.g2 Hd.g3 Hd.g4 Hd.g5 Hd.g6 Hd.g7 Hd.g8 Hd.g9 Hd.g10 Hd.g11 Hd.g12 Hd.g13 Hd.g14 Hd.put Hd.pute Hd.s0 Hd.s1 Hd.s2 Hd.s3 Hd.s4 Hd.s5 Hd.s6 Hd.s7 Hd.s8 Hd.s9 Hd.s10 Hd.s11 Hd.s12 Hd.s13 Hd.s14 Hd.zero Hd.enc
structure PlainB (s : At) (bx : Bool) (l : Int) : Prop where
  fg : s.fg = 7
  bg : s.bg = 0
  mo : s.mosaic = false
  ho : s.hold = false
  fl : s.flash = false
  bx : s.box = bx
  db : s.double = false
  co : s.conceal = false
  la : s.last = l
def cellB (g : Int) (bx : Bool) : Cell := ⟨g, 7, 0, false, false, bx, false, false, 0, 0⟩
theorem stepB_letter {s : At} {bx : Bool} {l : Int} (q : PlainB s bx l) {b o : Int} (hb : 32 ≤ bAnd .u8 b 127) : PlainB (stepF s b o).1 bx (bAnd .u8 b 127) ∧ (stepF s b o).2 = cellB (charI o (bAnd .u8 b 127)) bx := by
  generalize hc : bAnd .u8 b 127 = c at hb
  have hat : atF s c = s := by
    unfold atF
    rw [if_neg (by omega), if_neg (by omega), if_neg (by omega), if_neg (by omega), if_neg (by omega), if_neg (by omega), if_neg (by omega), if_neg (by omega)]
  have hg : glyphF s c o = (charI o c, s.held) := by
    unfold glyphF
    rw [if_neg (by omega), q.mo]; simp
  have hbe : ∀ t : At, behindF t c = t := fun t => by
    unfold behindF
    rw [if_neg (by omega), if_neg (by omega), if_neg (by omega), if_neg (by omega), if_neg (by omega)]
  have e : stepF s b o = ({ behindF { atF s c with held := (glyphF (atF s c) c o).2 } c with last := c }, cellF (atF s c) (glyphF (atF s c) c o).1) := by rw [← hc]; rfl
  rw [e, hat, hg, hbe]
  refine ⟨⟨q.fg, q.bg, q.mo, q.ho, q.fl, q.bx, q.db, q.co, rfl⟩, ?_⟩
  simp [cellF, cellB, q.fg, q.bg, q.fl, q.co, q.bx, q.db]
theorem stepB_code {s : At} {bx : Bool} {l : Int} (q : PlainB s bx l) {b o : Int} (hb : b = 11 ∨ b = 10) : PlainB (stepF s b o).1 (if l = b then decide (b = 11) else bx) b ∧ (stepF s b o).2 = cellB 32 (if l = b then decide (b = 11) else bx) := by
  have h127 : bAnd .u8 b 127 = b := by rcases hb with rfl | rfl <;> decide
  have e : stepF s b o = ({ behindF { atF s b with held := (glyphF (atF s b) b o).2 } b with last := b }, cellF (atF s b) (glyphF (atF s b) b o).1) := by
    show stepF s b o = _
    unfold stepF
    rw [h127]
  have hat : atF s b = { s with box := if l = b then decide (b = 11) else bx } := by
    have e1 : atF s b = if s.last = b then { s with box := decide (b = 11) } else s := by rcases hb with rfl | rfl <;> rfl
    by_cases hl : l = b
    · rw [e1, if_pos (q.la.trans hl), if_pos hl]
    · rw [e1, if_neg (fun x => hl (q.la.symm.trans x)), if_neg hl]
      have := q.bx
      cases s
      simp only at this
      subst this
      rfl
  have hg : ∀ t : At, t.hold = false → glyphF t b o = (32, t.held) := fun t ht => by
    unfold glyphF
    rw [if_pos (by omega), ht]; simp
  have hbe : ∀ t : At, behindF t b = t := fun t => by rcases hb with rfl | rfl <;> rfl
  rw [e, hat, hg { s with box := if l = b then decide (b = 11) else bx } q.ho, hbe]
  refine ⟨⟨q.fg, q.bg, q.mo, q.ho, q.fl, rfl, q.db, q.co, rfl⟩, ?_⟩
  simp [cellF, cellB, q.fg, q.bg, q.fl, q.co, q.db]
theorem startB : PlainB At.start false 0 := ⟨rfl, rfl, rfl, rfl, rfl, rfl, rfl, rfl, rfl⟩
/-- The row's bytes. -/
def lb (n k : Nat) : Int := if k = 0 then 97 else if k < 3 then 11 else if k < n + 3 then 120 else if k < n + 5 then 10 else if k = n + 5 then 122 else 121
def lL (n : Nat) : List Int := (List.range 40).map (lb n)
theorem lL_get (n : Nat) {k : Nat} (hk : k < 40) : (lL n).getD k 32 = lb n k := by
  simp [lL, List.getD_eq_getElem?_getD, hk]
theorem lb_rng (n k : Nat) : lb n k = 97 ∨ lb n k = 11 ∨ lb n k = 120 ∨ lb n k = 10 ∨ lb n k = 122 ∨ lb n k = 121 := by
  unfold lb
  split
  · simp
  · split
    · simp
    · split
      · simp
      · split
        · simp
        · split <;> simp
def inB (n k : Nat) : Bool := decide (2 ≤ k ∧ k < n + 4)
def lastB (n : Nat) : Nat → Int
  | 0 => 0
  | k + 1 => lb n k
theorem l_st {n : Nat} (h1 : 1 ≤ n) (h2 : n ≤ 20) (o : Int) : ∀ k, k ≤ 40 → PlainB (stF (lL n) o k) (decide (3 ≤ k ∧ k < n + 5)) (lastB n k)
  | 0, _ => startB
  | k + 1, hk => by
    have ih := l_st h1 h2 o k (by omega)
    show PlainB (stepF (stF (lL n) o k) ((lL n).getD k 32) o).1 _ (lb n k)
    rw [lL_get n (by omega)]
    by_cases hc : lb n k = 11 ∨ lb n k = 10
    · have q := (stepB_code ih (o := o) hc).1
      have e : (if lastB n k = lb n k then decide (lb n k = 11) else decide (3 ≤ k ∧ k < n + 5)) = decide (3 ≤ k + 1 ∧ k + 1 < n + 5) := by
        have hk' : k = 1 ∨ k = 2 ∨ k = n + 3 ∨ k = n + 4 := by
          unfold lb at hc
          split at hc
          · rcases hc with h | h <;> cases h
          · split at hc
            · omega
            · split at hc
              · rcases hc with h | h <;> cases h
              · split at hc
                · omega
                · split at hc <;> (rcases hc with h | h <;> cases h)
        rcases hk' with rfl | rfl | rfl | rfl
        · simp [lastB, lb]
        · simp [lastB, lb] <;> omega
        · have e1 : lb n (n + 3) = 10 := by unfold lb; rw [if_neg (by omega), if_neg (by omega), if_neg (by omega), if_pos (by omega)]
          have e2 : lastB n (n + 3) = 120 := by
            show lb n (n + 2) = 120
            unfold lb; rw [if_neg (by omega), if_neg (by omega), if_pos (by omega)]
          rw [e1, e2, if_neg (by decide), decide_eq_decide]
          omega
        · have e1 : lb n (n + 4) = 10 := by unfold lb; rw [if_neg (by omega), if_neg (by omega), if_neg (by omega), if_pos (by omega)]
          have e2 : lastB n (n + 4) = 10 := by
            show lb n (n + 3) = 10
            unfold lb; rw [if_neg (by omega), if_neg (by omega), if_neg (by omega), if_pos (by omega)]
          rw [e1, e2, if_pos rfl, show decide ((10 : Int) = 11) = false from rfl, decide_eq_false (by omega)]
      rw [e] at q
      exact q
    · have hr := lb_rng n k
      have hb : bAnd .u8 (lb n k) 127 = lb n k ∧ 32 ≤ lb n k := by
        rcases hr with h | h | h | h | h | h
        · rw [h]; decide
        · exact absurd (Or.inl h) hc
        · rw [h]; decide
        · exact absurd (Or.inr h) hc
        · rw [h]; decide
        · rw [h]; decide
      have q := (stepB_letter ih (b := lb n k) (o := o) (by rw [hb.1]; exact hb.2)).1
      rw [hb.1] at q
      rw [show decide (3 ≤ k + 1 ∧ k + 1 < n + 5) = decide (3 ≤ k ∧ k < n + 5) from by
        rw [decide_eq_decide]
        have : ¬ k = 2 ∧ ¬ k = n + 4 := by
          refine ⟨fun e => ?_, fun e => ?_⟩
          · subst e; exact hc (Or.inl (by simp [lb]))
          · subst e; exact hc (Or.inr (by unfold lb; rw [if_neg (by omega), if_neg (by omega), if_neg (by omega), if_pos (by omega)]))
        omega]
      exact q
theorem l_ce {n : Nat} (h1 : 1 ≤ n) (h2 : n ≤ 20) (o : Int) {k : Nat} (hk : k < 40) (hin : inB n k = true) : ceF (lL n) o k = cellB (if 3 ≤ k ∧ k < n + 3 then charI o 120 else 32) true := by
  have ih := l_st h1 h2 o k (by omega)
  have hin := of_decide_eq_true hin
  show (stepF (stF (lL n) o k) ((lL n).getD k 32) o).2 = _
  rw [lL_get n hk]
  by_cases hx : 3 ≤ k ∧ k < n + 3
  · have e1 : lb n k = 120 := by unfold lb; rw [if_neg (by omega), if_neg (by omega), if_pos (by omega)]
    rw [if_pos hx, e1, (stepB_letter ih (b := 120) (o := o) (by decide)).2, decide_eq_true (by omega)]
    rfl
  · rw [if_neg hx]
    have hk' : k = 2 ∨ k = n + 3 := by omega
    rcases hk' with rfl | rfl
    · have e1 : lb n 2 = 11 := by simp [lb]
      have e2 : lastB n 2 = 11 := by simp [lastB, lb]
      rw [e1, (stepB_code ih (b := 11) (o := o) (Or.inl rfl)).2, e2]
      rfl
    · have e1 : lb n (n + 3) = 10 := by unfold lb; rw [if_neg (by omega), if_neg (by omega), if_neg (by omega), if_pos (by omega)]
      have e2 : lastB n (n + 3) = 120 := by
        show lb n (n + 2) = 120
        unfold lb; rw [if_neg (by omega), if_neg (by omega), if_pos (by omega)]
      rw [e1, (stepB_code ih (b := 10) (o := o) (Or.inr rfl)).2, e2, if_neg (by decide), decide_eq_true (by omega)]
theorem l_out {n : Nat} (h1 : 1 ≤ n) (h2 : n ≤ 20) (o : Int) {k : Nat} (hk : k < 40) (hin : inB n k = false) : (ceF (lL n) o k).box = false ∧ (ceF (lL n) o k).conceal = false ∧ (ceF (lL n) o k).high = 0 := by
  have ih := l_st h1 h2 o k (by omega)
  have hin := of_decide_eq_false hin
  have hs : (stepF (stF (lL n) o k) ((lL n).getD k 32) o).2 = ceF (lL n) o k := rfl
  rw [← hs, lL_get n hk]
  by_cases hc : lb n k = 11 ∨ lb n k = 10
  · have e := (stepB_code ih (o := o) hc).2
    rw [e]
    refine ⟨?_, rfl, rfl⟩
    show (if lastB n k = lb n k then decide (lb n k = 11) else decide (3 ≤ k ∧ k < n + 5)) = false
    have hk' : k = 1 ∨ k = n + 4 := by
      unfold lb at hc
      split at hc
      · rcases hc with h | h <;> cases h
      · split at hc
        · omega
        · split at hc
          · rcases hc with h | h <;> cases h
          · split at hc
            · omega
            · split at hc <;> (rcases hc with h | h <;> cases h)
    rcases hk' with rfl | rfl
    · simp [lastB, lb]
    · have e1 : lb n (n + 4) = 10 := by unfold lb; rw [if_neg (by omega), if_neg (by omega), if_neg (by omega), if_pos (by omega)]
      have e2 : lastB n (n + 4) = 10 := by
        show lb n (n + 3) = 10
        unfold lb; rw [if_neg (by omega), if_neg (by omega), if_neg (by omega), if_pos (by omega)]
      rw [e1, e2, if_pos rfl]; rfl
  · have hr := lb_rng n k
    have hb : 32 ≤ bAnd .u8 (lb n k) 127 := by
      rcases hr with h | h | h | h | h | h
      · rw [h]; decide
      · exact absurd (Or.inl h) hc
      · rw [h]; decide
      · exact absurd (Or.inr h) hc
      · rw [h]; decide
      · rw [h]; decide
    rw [(stepB_letter ih (b := lb n k) (o := o) hb).2]
    refine ⟨?_, rfl, rfl⟩
    show decide (3 ≤ k ∧ k < n + 5) = false
    rw [decide_eq_false]
    intro hh
    have : k = n + 4 := by omega
    subst this
    exact hc (Or.inr (by unfold lb; rw [if_neg (by omega), if_neg (by omega), if_neg (by omega), if_pos (by omega)]))
def rb (n r0 k i : Nat) : Int := if r0 * 40 ≤ i ∧ i < r0 * 40 + k then lb n (i - r0 * 40) else 0
def PB (hd : Hd) (n r0 k : Nat) : Pg := { Pg.none with hd := hd, there := Pg.none.there.set r0 true, rows := (List.range 1000).map (rb n r0 k) }
theorem PB_ok (hd : Hd) (n r0 k : Nat) : (PB hd n r0 k).Ok := ⟨by simp [PB], by simp [PB, Pg.none_ok.there], Pg.none_ok.links⟩
theorem PB_zero (hd : Hd) (n r0 : Nat) : PB hd n r0 0 = ({ Pg.none with hd := hd } : Pg).setThere r0 true := by
  simp only [PB, Pg.setThere]
  congr 1
  rw [show Pg.none.rows = List.replicate 1000 0 from rfl]
  apply List.ext_getElem
  · simp
  · intro i h1 h2
    simp only [List.getElem_map, List.getElem_range, List.getElem_replicate, rb]
    rw [if_neg (by omega)]
theorem PB_step (hd : Hd) {n r0 k : Nat} (hr : r0 < 25) (hk : k < 40) : (PB hd n r0 k).setCell r0 k (lb n k) = PB hd n r0 (k + 1) := by
  simp only [Pg.setCell, PB]
  congr 1
  apply List.ext_getElem
  · simp
  · intro i h1 h2
    simp only [List.getElem_set, List.getElem_map, List.getElem_range, rb]
    by_cases a : r0 * 40 + k = i
    · rw [if_pos a, if_pos (show r0 * 40 ≤ i ∧ i < r0 * 40 + (k + 1) by omega)]
      congr 1
      omega
    · rw [if_neg a]
      by_cases c : r0 * 40 ≤ i ∧ i < r0 * 40 + k
      · rw [if_pos c, if_pos (show r0 * 40 ≤ i ∧ i < r0 * 40 + (k + 1) by omega)]
      · rw [if_neg c, if_neg (show ¬ (r0 * 40 ≤ i ∧ i < r0 * 40 + (k + 1)) by omega)]
theorem setCell_two (p : Pg) (r k : Nat) (v w : Int) : (p.setCell r k v).setCell r k w = p.setCell r k w := by
  simp [Pg.setCell, List.set_set]
theorem PB_cells (hd : Hd) {n r0 k : Nat} (hr : r0 < 25) (hk : k < 40) : ∃ cs : Int → List AV, (∀ v, setR ((PB hd n r0 k).enc .nsl) (15 + r0 * 40 + k) [.int .u8 v] = cs v) ∧ (∀ v w, setR (cs v) (15 + r0 * 40 + k) [.int .u8 w] = cs w) ∧
    cs (lb n k) = (PB hd n r0 (k + 1)).enc .nsl ∧ (∀ v, (cs v).length = 1061) ∧ ((PB hd n r0 k).enc .nsl).length = 1061 := by
  have o := PB_ok hd n r0 k
  refine ⟨fun v => ((PB hd n r0 k).setCell r0 k v).enc .nsl, fun v => Pg.put_cell o hr hk, fun v w => ?_, ?_, fun v => Pg.len (Pg.setCell_ok o), Pg.len o⟩
  · simp only []
    rw [Pg.put_cell (Pg.setCell_ok o) hr hk, setCell_two]
  · simp only []
    rw [PB_step hd hr hk]
theorem PB_is (hd : Hd) (n : Nat) {r0 r : Nat} (hr2 : r0 < 25) (hr : r < 25) : (PB hd n r0 40).is r = decide (r = r0) := by
  have e : (PB hd n r0 40).is r = ((List.replicate 25 false).set r0 true).getD r false := rfl
  rw [e, List.getD_eq_getElem?_getD, List.getElem?_set]
  by_cases b : r0 = r
  · subst b; simp [hr]
  · rw [if_neg b, List.getElem?_replicate_of_lt hr]
    simp [show ¬ r = r0 from fun x => b x.symm]
theorem PB_row (hd : Hd) (n : Nat) {r0 : Nat} (hr2 : r0 < 25) : (PB hd n r0 40).row r0 = lL n := by
  show (((List.range 1000).map (rb n r0 40)).drop (r0 * 40)).take 40 = _
  apply List.ext_getElem
  · simp [lL]; omega
  · intro i h1 h2
    simp only [lL, List.length_map, List.length_range] at h2
    simp only [lL, List.getElem_take, List.getElem_drop, List.getElem_map, List.getElem_range, rb]
    rw [if_pos (by omega)]
    congr 1
    omega
theorem PB_line (hd : Hd) (n : Nat) {r0 r : Nat} (hr2 : r0 < 25) (hr : r < 25) : lineF (PB hd n r0 40) r = if r = r0 then lL n else List.replicate 40 32 := by
  unfold lineF
  rw [if_neg (by omega)]
  simp only [Int.toNat_natCast]
  rw [PB_is hd n hr2 hr]
  by_cases b : r = r0
  · rw [if_pos b, if_pos (by simp [b]), b, PB_row hd n hr2]
  · rw [if_neg b, if_neg (by simp [b])]
theorem l_no13 (n k : Nat) : bAnd .u8 ((lL n).getD k 32) 127 ≠ 13 := by
  by_cases hk : k < 40
  · rw [lL_get n hk]
    have hr := lb_rng n k
    rcases hr with h | h | h | h | h | h <;> rw [h] <;> decide
  · rw [List.getD_eq_getElem?_getD, List.getElem?_eq_none (by simp [lL]; omega)]
    decide
theorem b_no13 (k : Nat) : bAnd .u8 ((List.replicate 40 (32 : Int)).getD k 32) 127 ≠ 13 := by
  rw [List.getD_eq_getElem?_getD, List.getElem?_replicate]
  split <;> decide
theorem b_st (o : Int) : ∀ k, k ≤ 40 → PlainB (stF (List.replicate 40 32) o k) false (if k = 0 then 0 else 32)
  | 0, _ => startB
  | k + 1, hk => by
    show PlainB (stepF (stF (List.replicate 40 32) o k) ((List.replicate 40 32).getD k 32) o).1 _ _
    rw [List.getD_eq_getElem?_getD, List.getElem?_replicate_of_lt (by omega)]
    exact (stepB_letter (b_st o k (by omega)) (b := 32) (by decide)).1
theorem b_ce (o : Int) {k : Nat} (hk : k < 40) : ceF (List.replicate 40 32) o k = cellB (charI o 32) false := by
  show (stepF (stF (List.replicate 40 32) o k) ((List.replicate 40 32).getD k 32) o).2 = _
  rw [List.getD_eq_getElem?_getD, List.getElem?_replicate_of_lt hk]
  exact (stepB_letter (b_st o k (by omega)) (b := 32) (by decide)).2
theorem row_cell {p : Pg} (hn : ∀ r : Nat, r < 25 → tallF (lineF p r) (regF p) 40 = false) (he : p.extra = []) {r k : Nat} (hr : r < 25) (hk : k < 40) : gridF p (r * 40 + k) = ceF (lineF p r) (regF p) k ∨ gridF p (r * 40 + k) = fl0 (ceF (lineF p r) (regF p) k) := by
  have hrow : (rowR p r)[k]? = some (ceF (lineF p r) (regF p) k) := by
    rw [rowR, he, show spotsF [] (-1) = [] from rfl, layF_nil, List.getElem?_eq_getElem (by rw [rowL_len]; exact hk), rowL_get, if_pos hk]
  rw [gridF, show (r * 40 + k) / 40 = r by omega, show (r * 40 + k) % 40 = k by omega, grid_noTall hn hr, List.getD_eq_getElem?_getD]
  split
  · right
    rw [List.getElem?_map, hrow]; rfl
  · left
    rw [hrow]; rfl
def outC (mix : Bool) : Cell := { bk with bg := if mix = true then -1 else 0 }
theorem shown_out (c : Cell) (mix : Bool) (hb : c.box = false) : shownC c true false mix = outC mix := by
  unfold shownC outC
  cases hc : c.conceal <;> cases mix <;> simp [hb, bk, hc]
theorem shown_in (g : Int) (mix : Bool) : shownC (cellB g true) true false mix = cellB g true := by
  cases mix <;> rfl
theorem box_val {P : Pg} {n r0 : Nat} {sub mix : Bool} (h1 : 1 ≤ n) (h2 : n ≤ 20) (hr0 : r0 < 25) (hF : P.hd = { Hd.none with c1 := !sub, c2 := sub }) (hreg : regF P = 0) (hline : ∀ r : Nat, r < 25 → lineF P r = if r = r0 then lL n else List.replicate 40 32) (he : P.extra = []) {r k : Nat} (hr : r < 25) (hk : k < 40) :
    pageC P false mix (r * 40 + k) = if r = r0 ∧ inB n k = true then cellB (if 3 ≤ k ∧ k < n + 3 then 120 else 32) true else outC mix := by
  have hn : ∀ r : Nat, r < 25 → tallF (lineF P r) (regF P) 40 = false := by
    intro r hr
    refine tall_none _ _ ?_ 40
    rw [hline r hr]
    split
    · exact l_no13 n
    · exact b_no13
  have hp : pageC P false mix (r * 40 + k) = shownC (gridF P (r * 40 + k)) true false mix := by
    rw [pageC, baseC, hF]
    have : hidB { Hd.none with c1 := !sub, c2 := sub } ((r * 40 + k) / 40) = false := by
      unfold hidB; split <;> rfl
    rw [this, if_neg (by decide)]
    cases sub <;> rfl
  have hc := row_cell hn he hr hk
  rw [hline r hr, hreg] at hc
  rw [hp]
  by_cases hrr : r = r0
  · rw [if_pos hrr] at hc
    cases hin : inB n k
    · rw [if_neg (by simp)]
      have ho := l_out h1 h2 0 hk hin
      rcases hc with hc | hc
      · rw [hc]; exact shown_out _ _ ho.1
      · rw [hc]; exact shown_out _ _ ho.1
    · rw [if_pos ⟨hrr, rfl⟩]
      have hi := l_ce h1 h2 0 hk hin
      rw [hi, show charI 0 120 = 120 from by decide] at hc
      rcases hc with hc | hc
      · rw [hc]; exact shown_in _ _
      · rw [hc]; exact shown_in _ _
  · rw [if_neg hrr, b_ce 0 hk] at hc
    rw [if_neg (fun x => hrr x.1)]
    rcases hc with hc | hc
    · rw [hc]; exact shown_out _ _ rfl
    · rw [hc]; exact shown_out _ _ rfl
theorem Pg.put_c1 {p : Pg} {x : AV} {b : Bool} : setR (p.enc x) 4 [.bool b] = (p.setHd { p.hd with c1 := b }).enc x := by
  unfold Pg.enc
  rw [setR_app_l (by rw [Hd.len]; exact Nat.le_of_ble_eq_true rfl)]
  rfl
theorem Pg.put_c2 {p : Pg} {x : AV} {b : Bool} : setR (p.enc x) 5 [.bool b] = (p.setHd { p.hd with c2 := b }).enc x := by
  unfold Pg.enc
  rw [setR_app_l (by rw [Hd.len]; exact Nat.le_of_ble_eq_true rfl)]
  rfl
def hdB (sub : Bool) : Hd := { Hd.none with c1 := !sub, c2 := sub }
theorem hdB_put (sub : Bool) : setR (setR (Pg.none.enc .nsl) 4 [.bool !sub]) 5 [.bool sub] = Pg.enc { Pg.none with hd := hdB sub } .nsl := by
  rw [Pg.put_c1, Pg.put_c2]; rfl
theorem hdB_len (sub : Bool) : (setR (Pg.none.enc .nsl) 4 [.bool !sub]).length = 1061 ∧ (Pg.enc { Pg.none with hd := hdB sub } .nsl).length = 1061 := by
  rw [Pg.put_c1]
  exact ⟨Pg.len (Pg.setHd_ok Pg.none_ok), Pg.len ⟨Pg.none_ok.rows, Pg.none_ok.there, Pg.none_ok.links⟩⟩
theorem zg_len : (repl 25 (repl 40 [AV.int IntKind.i64 0, AV.int IntKind.i64 0, AV.int IntKind.i64 0, AV.bool false, AV.bool false, AV.bool false, AV.bool false, AV.bool false, AV.int IntKind.i64 0, AV.int IntKind.i64 0])).length = 1000 * 10 := by rw [zgrid, Cell.flen]; simp
theorem pageL_get (P : Pg) (rev mix : Bool) {i : Nat} (hi : i < ((List.range 1000).map (pageC P rev mix)).length) : ((List.range 1000).map (pageC P rev mix))[i] = pageC P rev mix i := by simp
theorem page_rd (P : Pg) (rev mix : Bool) (i : Nat) (hi : i < 1000) : ((flat Cell.enc ((List.range 1000).map (pageC P rev mix))).drop (i * 10)).take 10 = (pageC P rev mix i).enc := by
  have h : i < ((List.range 1000).map (pageC P rev mix)).length := by simpa using hi
  rw [Cell.rd h, pageL_get P rev mix h]; rfl
/-- The bytes that are laid. -/
def bl (k : Nat) : List Int := [97, 11, 11] ++ List.replicate k 120
def bl3 (n : Nat) : List Int := bl n ++ [10, 10, 122]
theorem bl_len (k : Nat) : (bl k).length = k + 3 := by simp [bl] <;> omega
theorem bl3_len (k : Nat) : (bl3 k).length = k + 6 := by rw [bl3, List.length_append, bl_len]; rfl
theorem bl_more (k : Nat) : (bl k).map (AV.int .u8) ++ [.int .u8 120] = (bl (k + 1)).map (.int .u8) := by
  unfold bl
  rw [← List.replicate_append_replicate]
  simp
theorem bl3_get {n k : Nat} (hk : k < n + 6) : (bl3 n)[k]'(by rw [bl3_len]; exact hk) = lb n k := by
  have h1 : (bl3 n)[k]? = some (lb n k) := by
    unfold bl3 bl
    by_cases a : k < 3
    · rw [List.getElem?_append_left (by simp; omega), List.getElem?_append_left (by simp; omega)]
      match k, a with
      | 0, _ => simp [lb]
      | 1, _ => simp [lb]
      | 2, _ => simp [lb]
    · by_cases b : k < n + 3
      · rw [List.getElem?_append_left (by simp; omega), List.getElem?_append_right (by simp; omega), List.getElem?_replicate_of_lt (by simp; omega)]
        unfold lb
        rw [if_neg (by omega), if_neg a, if_pos b]
      · rw [List.getElem?_append_right (by simp; omega)]
        have e : k - ([97, 11, 11] ++ List.replicate n (120 : Int)).length = k - (n + 3) := by simp <;> omega
        rw [e]
        have hk3 : k = n + 3 ∨ k = n + 4 ∨ k = n + 5 := by omega
        rcases hk3 with rfl | rfl | rfl
        · unfold lb
          rw [if_neg (by omega), if_neg (by omega), if_neg (by omega), if_pos (by omega), show n + 3 - (n + 3) = 0 by omega]; rfl
        · unfold lb
          rw [if_neg (by omega), if_neg (by omega), if_neg (by omega), if_pos (by omega), show n + 4 - (n + 3) = 1 by omega]; rfl
        · unfold lb
          rw [if_neg (by omega), if_neg (by omega), if_neg (by omega), if_neg (by omega), if_pos rfl, show n + 5 - (n + 3) = 2 by omega]; rfl
  rw [List.getElem?_eq_getElem (by rw [bl3_len]; exact hk)] at h1
  exact Option.some.inj h1
theorem lb_out {n k : Nat} (h : ¬ k < n + 6) : lb n k = 121 := by
  unfold lb
  rw [if_neg (by omega), if_neg (by omega), if_neg (by omega), if_neg (by omega), if_neg (by omega)]
attribute [local irreducible] Pg.enc Hd.enc PB pageC gridF flat bl bl3 lb
theorem main (row n' : Int) (sub mix : Bool) : callω L T 4 0 [.int .i64 row, .int .i64 n', .bool sub, .bool mix] [none, none, none, none] = some (.bool true, [none, none, none, none]) := by
  rw [call_ex (show T 4 = some (.code a4) from rfl) rfl rfl]
  have tn := t_Number (0 + 1) row 23 (by omega) (by omega)
  have tn2 := t_Number (0 + 1) n' 20 (by omega) (by omega)
  have oz := Pg.none_ok
  obtain ⟨r0, hrr, hr1, hr2⟩ : ∃ r : Nat, IntKind.i64.wrap (row % 23 + 1) = (r : Int) ∧ 1 ≤ r ∧ r < 24 := by
    rw [w_i64 (by omega) (by omega)]
    exact ⟨(row % 23 + 1).toNat, by omega, by omega, by omega⟩
  obtain ⟨n, hnn, hn1, hn2⟩ : ∃ r : Nat, IntKind.i64.wrap (n' % 20 + 1) = (r : Int) ∧ 1 ≤ r ∧ r ≤ 20 := by
    rw [w_i64 (by omega) (by omega)]
    exact ⟨(n' % 20 + 1).toNat, by omega, by omega, by omega⟩
  have L1 := (hdB_len sub).1
  have L2 := (hdB_len sub).2
  have e1 := hdB_put sub
  have s3 := Pg.put_there (p := { Pg.none with hd := hdB sub }) (x := .nsl) (r := r0) (b := true) ⟨oz.rows, oz.there, oz.links⟩ (by omega)
  rw [← PB_zero (hdB sub) n r0] at s3
  (have fA := And.intro @pgs (And.intro @Pg.zero_eq (And.intro @L1 (And.intro @L2 (And.intro @e1 (And.intro @s3 (And.intro @hrr (And.intro (show Int.toNat 1 = 1 from rfl) ((show Int.toNat 2 = 2 from rfl))))))))); have c1 := fun x1 => t_law17_first x1; have c2 := tn; have c3 := tn2; refine gox ?_; clear fA c1 c2 c3)
  refine Eq.trans (head_eq (env' := [(0, .int .i64 r0), (1, .int .i64 n), (3, .bool mix), (9, .bool true), (10, .ref 10 (0, 1) 0), (11, .msl 42 (0, 1 + 1) 1 0 (0 + 3)), (12, .int .i64 ((0 : Nat) : Int))]) (heap' := [(10, ⟨(0, 1), (PB (hdB sub) n r0 0).enc .nsl⟩), (42, ⟨(0, 1 + 1), (bl 0).map (.int .u8)⟩)]) (by rw [hrr, hnn]; rfl) (by unfold bl; rfl) rfl) ?_
  clear tn tn2 L1 L2 e1 s3
  refine headX_for (fun _ (_ : Nat × Nat) => True) (fun i (x : Nat × Nat) => ⟨[(0, .int .i64 r0), (1, .int .i64 n), (3, .bool mix), (9, .bool true), (10, .ref 10 (0, 1) 0), (11, .msl 42 (0, x.1) 1 0 (i + 3)), (12, .int .i64 i)], [(10, ⟨(0, 1), (PB (hdB sub) n r0 0).enc .nsl⟩), (42, ⟨(0, x.1), (bl i).map (.int .u8)⟩)], x.2, 0⟩) n _ ?_ ?_ (1 + 1, 1 + 1 + 1) trivial
  · rintro i ⟨g, nx⟩ hi - ih
    dsimp only at ih ⊢
    refine Eq.trans ?_ (ih (nx + 1, nx + 1 + 1) trivial)
    have lb1 : ((bl i).map (AV.int .u8)).length = i + 3 := by rw [List.length_map, bl_len]
    have mb1 := bl_more i
    clear ih
    generalize (bl (i + 1)).map (AV.int .u8) = c2 at *
    generalize (bl i).map (AV.int .u8) = c1 at *
    (have fA := And.intro @lb1 (And.intro @mb1 (@List.drop_zero AV)); refine gox ?_; clear fA)
    refine head_eq ?_ (by rw [← mb1]; rfl) rfl
    simp [wrap_succ hi (by omega)]
    try omega
  · rintro ⟨g, nx⟩ -
    dsimp only
    have lb1 : ((bl n).map (AV.int .u8)).length = n + 3 := by rw [List.length_map, bl_len]
    have mb1 : (bl n).map (AV.int .u8) ++ [.int .u8 10, .int .u8 10, .int .u8 122] = (bl3 n).map (.int .u8) := by rw [bl3, List.map_append]; rfl
    have lb3 : ((bl3 n).map (AV.int .u8)).length = n + 6 := by rw [List.length_map, bl3_len]
    have gb3 : ∀ k, k < n + 6 → ((bl3 n).map (AV.int .u8))[k]? = some (.int .u8 (lb n k)) := fun k hk => by
      rw [List.getElem?_map, List.getElem?_eq_getElem (by rw [bl3_len]; exact hk), bl3_get hk]; rfl
    generalize (bl3 n).map (AV.int .u8) = c3 at *
    generalize (bl n).map (AV.int .u8) = c1 at *
    (have fA := And.intro @lb1 (And.intro @mb1 (@List.drop_zero AV)); refine gox ?_; clear fA)
    refine Eq.trans (head_eq (env' := [(0, .int .i64 r0), (1, .int .i64 n), (3, .bool mix), (9, .bool true), (10, .ref 10 (0, 1) 0), (11, .msl 42 (0, nx + 1) 1 0 (n + 6)), (13, .int .i64 ((0 : Nat) : Int))]) (heap' := [(10, ⟨(0, 1), (PB (hdB sub) n r0 0).enc .nsl⟩), (42, ⟨(0, nx + 1), c3⟩)]) rfl (by rw [← mb1]; rfl) rfl) ?_
    clear lb1 mb1
    refine headX_up (fun k => ⟨[(0, .int .i64 r0), (1, .int .i64 n), (3, .bool mix), (9, .bool true), (10, .ref 10 (0, 1) 0), (11, .msl 42 (0, nx + 1) 1 0 (n + 6)), (13, .int .i64 k)], [(10, ⟨(0, 1), (PB (hdB sub) n r0 k).enc .nsl⟩), (42, ⟨(0, nx + 1), c3⟩)], nx + 1 + 1, 0⟩) 40 _ ?_ ?_ 0 (by omega)
    · intro k hk
      obtain ⟨cs, a1, a2, a3, a4, a5⟩ := PB_cells (hdB sub) (n := n) (r0 := r0) (k := k) (by omega) hk
      have gb := gb3 k
      clear gb3
      generalize (PB (hdB sub) n r0 (k + 1)).enc .nsl = p2 at *
      generalize (PB (hdB sub) n r0 k).enc .nsl = p1 at *
      by_cases hkn : k < n + 6
      · have gb := gb hkn
        generalize lb n k = v at *
        (have fA := And.intro @a1 (And.intro @a2 (And.intro @a3 (And.intro @a4 (And.intro @a5 (And.intro @gb @lb3))))); refine gox ?_; clear fA)
        refine head_eq ?_ ?_ rfl
        · simp [wrap_succ hk (by omega)]
        · rw [← a3]
      · have a3 : cs 121 = p2 := by rw [← a3, lb_out hkn]
        (have fA := And.intro @a1 (And.intro @a2 (And.intro @a3 (And.intro @a4 (And.intro @a5 @lb3)))); refine gox ?_; clear fA)
        refine head_eq ?_ ?_ rfl
        · simp [wrap_succ hk (by omega)]
        · rw [← a3]
    · have oF := PB_ok (hdB sub) n r0 40
      have eF : (PB (hdB sub) n r0 40).extra = [] := by rw [PB]; rfl
      have hF : (PB (hdB sub) n r0 40).hd = hdB sub := by rw [PB]
      have dF : (PB (hdB sub) n r0 40).dflt = 0 := by rw [PB]; rfl
      have t1 := t_Page (0 + 1) _ oF (x := .nsl) (Or.inr ⟨rfl, eF⟩) (by rw [eF]; decide) false mix
      have W := Pg.whole (x := .nsl) oF
      have L6 := Pg.len (x := .nsl) oF
      have hreg : regF (PB (hdB sub) n r0 40) = 0 := by
        unfold regF
        rw [dF, if_pos (by omega), hF]; rfl
      have hline := fun r (hr : r < 25) => PB_line (hdB sub) n (r0 := r0) (by omega) hr
      have bv := fun r k (hr : r < 25) (hk : k < 40) => box_val (P := PB (hdB sub) n r0 40) (n := n) (r0 := r0) (sub := sub) (mix := mix) hn1 hn2 (by omega) hF hreg hline eF hr hk
      generalize hPB : PB (hdB sub) n r0 40 = P at *
      clear hPB hline hreg dF hF eF
      have n1 := Cell.flen ((List.range 1000).map (pageC P false mix))
      rw [List.length_map, List.length_range] at n1
      have rd1 := fun i hi => page_rd P false mix i hi
      generalize flat Cell.enc ((List.range 1000).map (pageC P false mix)) = G1 at *
      generalize P.enc .nsl = cP at *
      have sG1 : setR (repl 25 (repl 40 [AV.int IntKind.i64 0, AV.int IntKind.i64 0, AV.int IntKind.i64 0, AV.bool false, AV.bool false, AV.bool false, AV.bool false, AV.bool false, AV.int IntKind.i64 0, AV.int IntKind.i64 0])) 0 G1 = G1 := setR_all (by rw [n1, zg_len])
      (have fA := And.intro @W (And.intro @L6 @sG1); have c1 := t1; refine gox ?_; clear fA c1)
      clear t1 W L6 sG1 gb3 lb3
      refine headX_upN (fun r nz => ⟨[(0, .int .i64 r0), (1, .int .i64 n), (3, .bool mix), (9, .bool true), (14, .ref 14 (0, nx + 1 + 1) 0), (15, .int .i64 r)], [(14, ⟨(0, nx + 1 + 1), G1⟩)], nz, 0⟩) 25 _ ?_ ?_ 0 _ (by omega)
      · intro r nz hr
        refine ⟨nz + 40, ?_⟩
        (refine gox ?_)
        refine headX_up (fun c => ⟨[(0, .int .i64 r0), (1, .int .i64 n), (3, .bool mix), (9, .bool true), (14, .ref 14 (0, nx + 1 + 1) 0), (15, .int .i64 r), (16, .int .i64 c)], [(14, ⟨(0, nx + 1 + 1), G1⟩)], nz + c, 0⟩) 40 _ ?_ ?_ 0 (by omega)
        · intro c hc
          have rd := rd1 (r * 40 + c) (by omega)
          rw [show (r * 40 + c) * 10 = r * 400 + c * 10 by omega, bv r c hr hc] at rd
          clear rd1 bv
          have wn4 : IntKind.i64.wrap ((n : Int) + 4) = (n : Int) + 4 := w_i64 (by omega) (by omega)
          have wn3 : IntKind.i64.wrap ((n : Int) + 3) = (n : Int) + 3 := w_i64 (by omega) (by omega)
          by_cases h1 : r = r0
          · by_cases h2 : 2 ≤ c
            · by_cases h3 : c < n + 4
              · have hb4 : (true == decide ((c : Int) < IntKind.i64.wrap ((n : Int) + 4))) = true := by rw [wn4, decide_eq_true (by omega)]; rfl
                rw [if_pos ⟨h1, by unfold inB; exact decide_eq_true ⟨h2, h3⟩⟩] at rd
                by_cases h4 : 3 ≤ c
                · by_cases h5 : c < n + 3
                  · rw [if_pos ⟨h4, h5⟩] at rd
                    simp only [Cell.enc, cellB] at rd
                    cases mix
                    all_goals (have fA := And.intro @rd (And.intro @n1 (And.intro @wn3 @wn4)); refine gox ?_; clear fA)
                    all_goals refine head_eq ?_ rfl rfl
                    all_goals simp [wrap_succ hc (by omega)]
                  · rw [if_neg (by omega)] at rd
                    simp only [Cell.enc, cellB] at rd
                    cases mix
                    all_goals (have fA := And.intro @rd (And.intro @n1 (And.intro @wn3 @wn4)); refine gox ?_; clear fA)
                    all_goals refine head_eq ?_ rfl rfl
                    all_goals simp [wrap_succ hc (by omega)]
                · rw [if_neg (by omega)] at rd
                  simp only [Cell.enc, cellB] at rd
                  cases mix
                  all_goals (have fA := And.intro @rd (And.intro @n1 (And.intro @wn3 @wn4)); refine gox ?_; clear fA)
                  all_goals refine head_eq ?_ rfl rfl
                  all_goals simp [wrap_succ hc (by omega)]
              · have hb4 : (false == decide ((c : Int) < IntKind.i64.wrap ((n : Int) + 4))) = true := by rw [wn4, decide_eq_false (by omega)]; rfl
                rw [if_neg (fun x => h3 (of_decide_eq_true x.2).2)] at rd
                cases mix
                all_goals simp only [Cell.enc, outC, bk, if_true, if_false, Bool.false_eq_true] at rd
                all_goals by_cases h5 : c < n + 3
                all_goals try omega
                all_goals (have fA := And.intro @rd (And.intro @n1 (And.intro @wn3 @wn4)); refine gox ?_; clear fA)
                all_goals refine head_eq ?_ rfl rfl
                all_goals simp [wrap_succ hc (by omega)]
            · rw [if_neg (fun x => h2 (of_decide_eq_true x.2).1)] at rd
              cases mix
              all_goals simp only [Cell.enc, outC, bk, if_true, if_false, Bool.false_eq_true] at rd
              all_goals (have fA := And.intro @rd (And.intro @n1 (And.intro @wn3 @wn4)); refine gox ?_; clear fA)
              all_goals refine head_eq ?_ rfl rfl
              all_goals simp [wrap_succ hc (by omega)]
          · rw [if_neg (fun x => h1 x.1)] at rd
            cases mix
            all_goals simp only [Cell.enc, outC, bk, if_true, if_false, Bool.false_eq_true] at rd
            all_goals (have fA := And.intro @rd (And.intro @n1 (And.intro @wn3 @wn4)); refine gox ?_; clear fA)
            all_goals refine head_eq ?_ rfl rfl
            all_goals simp [wrap_succ hc (by omega)]
        · (refine gox ?_)
          refine head_eq ?_ rfl rfl
          simp [wrap_succ hr (by omega)]
      · intro nz
        (refine gox ?_)
        (refine finx ?_; try with_reducible rfl)
        try rfl
theorem law (cs : List AV) (h : ShpAll L 5 Try.f4.params.toList cs) : ∃ lent, callω L T 4 0 cs (List.replicate Try.f4.params.toList.length none) = some (.bool true, lent) := by
  rw [Try.params4] at h
  obtain ⟨row, _, rfl, _, h1⟩ := shpAll_int rfl h
  obtain ⟨n, _, rfl, _, h2⟩ := shpAll_int rfl h1
  obtain ⟨b1, _, rfl, h3⟩ := shpAll_bool rfl h2
  obtain ⟨b2, _, rfl, h4⟩ := shpAll_bool rfl h3
  obtain rfl := shpAll_nil h4
  exact ⟨_, main row n b1 b2⟩

open Go.ChangeShapes Go.WideShapes Go.ChangeAt Go.RowKit
theorem lifted (os : Os) (started : os.Started) (H : Type) (enc : TypeId × Value → H) :
    ReturnsInHanded {} Try.checked os 4 .any (Rows.renderBoxesSpec.pre6 enc Try.prog Try.f4 Rows.renderBoxesRow.domain false) (Rows.renderBoxesSpec.post enc Try.prog Try.f4 false true false false) := by
  refine law_lift (C := Try.checked) (n := 5) own started (by kernel_rfl) Try.func4 L_ok T_ok (show T 4 = some (.code a4) from rfl) laid (by kernel_rfl) rfl Try.underlying4 rfl ?_ law
    (ChangeSpec.witness6 (enc := enc) (C := Try.checked) false ⟨#[], #[.int .i64 0, .int .i64 0, .bool false, .bool false], []⟩ 8 (by kernel_rfl) (by kernel_rfl) (by kernel_rfl) (by kernel_rfl))
  intro H ds hl
  rw [Try.params4] at hl
  match ds, hl with
  | [d1, d2, d3, d4], _ => rfl

theorem over : Rows.renderBoxesRow.holds Try.pinned (OpenSpec.ofChange Rows.renderBoxesSpec) :=
  OpenClaim.holds_of_wide 4 Try.f4 rfl rfl rfl rfl rfl rfl rfl ⟨rfl, rfl, rfl, rfl, rfl⟩ rfl rfl rfl rfl rfl (by kernel_rfl) Try.func4 (by kernel_rfl)
    (of_decide_eq_true (by kernel_rfl)) (by unfold Func.isWrapper; first | (rw [if_pos (by decide +kernel)]; kernel_rfl) | (rw [if_neg (by decide +kernel)]; exact ⟨rfl, rfl⟩))
    (fun os started H enc _ => lifted os started H enc)

theorem proved : Rows.RenderBoxesSaid :=
  over
#print axioms proved
end Go.Proofs.Ytkienchmbfhigaa.renderBoxes
