/- RenderFlags: headers can be left out, rows can be; a page that is a newsflash shows its boxes alone; concealed letters are seen when they are asked for. No condition. -/
import Derived.Test.YtkienchmbfhigaaRows
import Derived.Test.YtkienchmbfhigaaSimT
import Derived.Test.YtkienchmbfhigaaSimY
import Derived.Test.YtkienchmbfhigaaPrender5
import Derived.Test.YtkienchmbfhigaaPattr5
import Derived.Test.YtkienchmbfhigaaPattr7
set_option maxRecDepth 100000
set_option maxHeartbeats 40000000
set_option linter.unusedSimpArgs false
set_option linter.unusedVariables false
namespace Go.Proofs.Ytkienchmbfhigaa.renderFlags
open Go Go.Sim
attribute [local irreducible] chk brX getX strX setX takeX normX fillX lendX partsX opsX callK lentK giveX adoptX resX joinX headX loopX seqK blkK regK finX exOps ex eqT
attribute [local simp] setR_int setR_bool setR_zero setR_succ repl_int repl_bool List.getElem?_cons_zero List.getElem?_cons_succ List.getElem?_nil w_i64 w_u64 w_u8 bAnd_u8 bOr_u8 bXor_u8 bAndNot_u8 bShl_u8 wrap_u8_range all_plain_int all_plain_bool all_plain_app pl_bool pl_int pl_str pl_nilp pl_nsl pl_nilI pl_nilF take_map_len AV.cells TI.isAgg

attribute [local simp] Cell.flen Cell.rd Cell.g0 Cell.g1 Cell.g2 Cell.g3 Cell.g4 Cell.g5 Cell.g6 Cell.g7 Cell.g8 Cell.g9 Cell.put Cell.pute Cell.s0 Cell.s1 Cell.s2 Cell.s3 Cell.s4 Cell.s5 Cell.s6 Cell.s7 Cell.s8 Cell.s9 Cell.zero Cell.enc Tr.flen Tr.rd Tr.g0 Tr.g1 Tr.g2 Tr.put Tr.pute Tr.s0 Tr.s1 Tr.s2 Tr.zero Tr.enc Hd.flen Hd.rd Hd.g0 Hd.g1 Hd.g2 Hd.g3 Hd.g4 Hd.g5 Hd.g6 Hd.g7 Hd.g8 Hd.g9 Hd.g10 Hd.g11 Hd.g12 Hd.g13 Hd.g14 Hd.put Hd.pute Hd.s0 Hd.s1 Hd.s2 Hd.s3 Hd.s4 Hd.s5 Hd.s6 Hd.s7 Hd.s8 Hd.s9 Hd.s10 Hd.s11 Hd.s12 Hd.s13 Hd.s14 Hd.zero Hd.enc
theorem Pg.cell_at {p : Pg} {x : AV} (h : p.Ok) {r k : Nat} (hr : r < 25) (hk : k < 40) : (p.enc x)[15 + r * 40 + k]? = some (.int .u8 ((p.row r).getD k 0)) := by
  have e := congrArg (fun l => l[k]?) (Pg.row_at (x := x) h hr)
  simp only [List.getElem?_take_of_lt hk, List.getElem?_drop, List.getElem?_map] at e
  rw [e, List.getD_eq_getElem?_getD]
  have : k < (p.row r).length := by rw [Pg.row_len h hr]; exact hk
  rw [List.getElem?_eq_getElem this]
  rfl
def tb (x : Int) : Int := bOr .u8 (bAnd .u8 x 95) 32
theorem tb_ok {x : Int} (h0 : 0 ≤ x) (h1 : x < 256) : 32 ≤ tb x ∧ tb x < 128 ∧ bAnd .u8 (tb x) 127 = tb x := by
  have h := byteB_get (p := fun x => decide (32 ≤ tb x ∧ tb x < 128 ∧ bAnd .u8 (tb x) 127 = tb x)) (by decide +kernel) h0 h1
  exact of_decide_eq_true h
def rk (xs : List Int) (r0 k : Nat) (i : Nat) : Int := if r0 * 40 ≤ i ∧ i < r0 * 40 + k then tb (xs.getD (i - r0 * 40) 0) else if i < k then 104 else 0
def PK (hd : Hd) (xs : List Int) (r0 k : Nat) : Pg := { Pg.none with hd := hd, rows := (List.range 1000).map (rk xs r0 k) }
theorem PK_ok (hd : Hd) (xs : List Int) (r0 k : Nat) : (PK hd xs r0 k).Ok := ⟨by simp [PK], Pg.none_ok.there, Pg.none_ok.links⟩
theorem PK_step (hd : Hd) (xs : List Int) {r0 k : Nat} (hr : 1 ≤ r0) (hr2 : r0 < 25) (hk : k < 40) : ((PK hd xs r0 k).setCell r0 k (tb (xs.getD k 0))).setCell 0 k 104 = PK hd xs r0 (k + 1) := by
  simp only [Pg.setCell, PK]
  congr 1
  apply List.ext_getElem
  · simp
  · intro i h1 h2
    simp only [List.length_map, List.length_range] at h2
    simp only [List.getElem_set, List.getElem_map, List.getElem_range, rk]
    by_cases a : 0 * 40 + k = i
    · rw [if_pos a, if_neg (by omega), if_pos (by omega)]
    · rw [if_neg a]
      by_cases b : r0 * 40 + k = i
      · rw [if_pos b, if_pos (by omega)]
        congr 2
        omega
      · rw [if_neg b]
        by_cases c : r0 * 40 ≤ i ∧ i < r0 * 40 + k
        · rw [if_pos c, if_pos (by omega)]
        · by_cases d : i < k
          · rw [if_neg c, if_pos d, if_neg (show ¬ (r0 * 40 ≤ i ∧ i < r0 * 40 + (k + 1)) by omega), if_pos (show i < k + 1 by omega)]
          · rw [if_neg c, if_neg d, if_neg (show ¬ (r0 * 40 ≤ i ∧ i < r0 * 40 + (k + 1)) by omega), if_neg (show ¬ i < k + 1 by omega)]
theorem PK_zero (hd : Hd) (xs : List Int) (r0 : Nat) : PK hd xs r0 0 = { Pg.none with hd := hd } := by
  simp only [PK]
  congr 1
  rw [show Pg.none.rows = List.replicate 1000 0 from rfl]
  apply List.ext_getElem
  · simp
  · intro i h1 h2
    simp only [List.getElem_map, List.getElem_range, List.getElem_replicate, rk]
    rw [if_neg (by omega), if_neg (by omega)]
def PF (hd : Hd) (xs : List Int) (r0 : Nat) : Pg := (((PK hd xs r0 40).setCell r0 5 24).setThere r0 true).setThere 0 true
theorem PF_ok (hd : Hd) (xs : List Int) (r0 : Nat) : (PF hd xs r0).Ok := Pg.setThere_ok (Pg.setThere_ok (Pg.setCell_ok (PK_ok hd xs r0 40)))
def l0 (xs : List Int) : List Int := (List.range 40).map fun k => if k = 5 then 24 else tb (xs.getD k 0)
theorem PF_row (hd : Hd) (xs : List Int) {r0 : Nat} (hr : 1 ≤ r0) (hr2 : r0 < 25) : (PF hd xs r0).row r0 = l0 xs := by
  show (((List.range 1000).map (rk xs r0 40)).set (r0 * 40 + 5) 24 |>.drop (r0 * 40)).take 40 = _
  apply List.ext_getElem
  · simp [l0]; omega
  · intro i h1 h2
    simp only [l0, List.length_map, List.length_range] at h2
    simp only [l0, List.getElem_take, List.getElem_drop, List.getElem_set, List.getElem_map, List.getElem_range, rk]
    by_cases a : i = 5
    · rw [if_pos (by omega), if_pos a]
    · rw [if_neg (by omega), if_neg a, if_pos (by omega)]
      congr 2
      omega
theorem PF_row0 (hd : Hd) (xs : List Int) {r0 : Nat} (hr : 1 ≤ r0) (hr2 : r0 < 25) : (PF hd xs r0).row 0 = List.replicate 40 104 := by
  show (((List.range 1000).map (rk xs r0 40)).set (r0 * 40 + 5) 24 |>.drop (0 * 40)).take 40 = _
  apply List.ext_getElem
  · simp
  · intro i h1 h2
    simp only [List.length_replicate] at h2
    simp only [List.getElem_take, List.getElem_drop, List.getElem_set, List.getElem_map, List.getElem_range, rk, List.getElem_replicate]
    rw [if_neg (by omega), if_neg (by omega), if_pos (by omega)]
theorem PF_is (hd : Hd) (xs : List Int) {r0 r : Nat} (hr2 : r0 < 25) (hr : r < 25) : (PF hd xs r0).is r = decide (r = 0 ∨ r = r0) := by
  have h : (PF hd xs r0).is r = (((List.replicate 25 false).set r0 true).set 0 true).getD r false := rfl
  rw [h, List.getD_eq_getElem?_getD, List.getElem?_set, List.getElem?_set]
  by_cases a : r = 0
  · subst a; simp
  · rw [if_neg (by omega)]
    by_cases b : r = r0
    · subst b; simp [hr]
    · rw [if_neg (by omega), List.getElem?_replicate_of_lt hr]
      simp [a, b]
theorem PF_line (hd : Hd) (xs : List Int) {r0 r : Nat} (hr1 : 1 ≤ r0) (hr2 : r0 < 25) (hr : r < 25) : lineF (PF hd xs r0) r = if r = r0 then l0 xs else if r = 0 then List.replicate 40 104 else List.replicate 40 32 := by
  unfold lineF
  rw [if_neg (by omega)]
  simp only [Int.toNat_natCast]
  rw [PF_is hd xs hr2 hr]
  by_cases b : r = r0
  · rw [if_pos b, if_pos (by simp [b]), b, PF_row hd xs hr1 hr2]
  · rw [if_neg b]
    by_cases a : r = 0
    · rw [if_pos a, if_pos (by simp [a]), a, PF_row0 hd xs hr1 hr2]
    · rw [if_neg a, if_neg (by simp [a, b])]
theorem l0_get (xs : List Int) {k : Nat} (hk : k < 40) : (l0 xs).getD k 32 = if k = 5 then 24 else tb (xs.getD k 0) := by
  simp [l0, List.getD_eq_getElem?_getD, hk]
theorem l0_get0 (xs : List Int) {k : Nat} (hk : k < 40) : (l0 xs).getD k 0 = if k = 5 then 24 else tb (xs.getD k 0) := by
  simp [l0, List.getD_eq_getElem?_getD, hk]
theorem l0_st {xs : List Int} (hx : ∀ x ∈ xs, 0 ≤ x ∧ x < 256) (o : Int) : ∀ k, k ≤ 40 → PlainS (stF (l0 xs) o k) (decide (5 < k))
  | 0, _ => start_plain
  | k + 1, hk => by
    have ih := l0_st hx o k (by omega)
    have hb := u8_getD hx k
    have ht := tb_ok hb.1 hb.2
    show PlainS (stepF (stF (l0 xs) o k) ((l0 xs).getD k 32) o).1 _
    rw [l0_get xs (by omega)]
    by_cases h5 : k = 5
    · rw [if_pos h5]
      have := (step_conceal ih (b := 24) (o := o) (by decide)).1
      rw [decide_eq_true (by omega)]
      exact this
    · rw [if_neg h5]
      have := (step_letter ih (b := tb (xs.getD k 0)) (o := o) (by omega)).1
      rw [show decide (5 < k + 1) = decide (5 < k) from by rw [decide_eq_decide]; omega]
      exact this
theorem l0_ce {xs : List Int} (hx : ∀ x ∈ xs, 0 ≤ x ∧ x < 256) (o : Int) {k : Nat} (hk : k < 40) : ceF (l0 xs) o k = cellL (if k = 5 then 32 else charI o (tb (xs.getD k 0))) (decide (5 ≤ k)) := by
  have ih := l0_st hx o k (by omega)
  have hb := u8_getD hx k
  have ht := tb_ok hb.1 hb.2
  show (stepF (stF (l0 xs) o k) ((l0 xs).getD k 32) o).2 = _
  rw [l0_get xs hk]
  by_cases h5 : k = 5
  · rw [if_pos h5, if_pos h5, (step_conceal ih (b := 24) (o := o) (by decide)).2, decide_eq_true (by omega)]
  · rw [if_neg h5, if_neg h5, (step_letter ih (b := tb (xs.getD k 0)) (o := o) (by omega)).2, ht.2.2]
    congr 1
    rw [decide_eq_decide]; omega
theorem l0_no13 {xs : List Int} (hx : ∀ x ∈ xs, 0 ≤ x ∧ x < 256) (k : Nat) : bAnd .u8 ((l0 xs).getD k 32) 127 ≠ 13 := by
  by_cases hk : k < 40
  · rw [l0_get xs hk]
    split
    · decide
    · have hb := u8_getD hx k
      have ht := tb_ok hb.1 hb.2
      omega
  · rw [List.getD_eq_getElem?_getD, List.getElem?_eq_none (by simp [l0]; omega)]
    decide
theorem const_st (v o : Int) (hv : 32 ≤ bAnd .u8 v 127) : ∀ k, k ≤ 40 → PlainS (stF (List.replicate 40 v) o k) false
  | 0, _ => start_plain
  | k + 1, hk => by
    show PlainS (stepF (stF (List.replicate 40 v) o k) ((List.replicate 40 v).getD k 32) o).1 _
    rw [List.getD_eq_getElem?_getD, List.getElem?_replicate_of_lt (by omega)]
    exact (step_letter (const_st v o hv k (by omega)) hv).1
theorem const_ce (v o : Int) (hv : 32 ≤ bAnd .u8 v 127) {k : Nat} (hk : k < 40) : ceF (List.replicate 40 v) o k = cellL (charI o (bAnd .u8 v 127)) false := by
  show (stepF (stF (List.replicate 40 v) o k) ((List.replicate 40 v).getD k 32) o).2 = _
  rw [List.getD_eq_getElem?_getD, List.getElem?_replicate_of_lt hk]
  exact (step_letter (const_st v o hv k (by omega)) hv).2
theorem const_no13 (v : Int) (hv : bAnd .u8 v 127 ≠ 13) (k : Nat) : bAnd .u8 ((List.replicate 40 v).getD k 32) 127 ≠ 13 := by
  rw [List.getD_eq_getElem?_getD, List.getElem?_replicate]
  split
  · exact hv
  · decide
theorem fl0_L (g : Int) (cc : Bool) : fl0 (cellL g cc) = cellL g cc := rfl
theorem grid_cell {p : Pg} (hn : ∀ r : Nat, r < 25 → tallF (lineF p r) (regF p) 40 = false) (he : p.extra = []) {r k : Nat} (hr : r < 25) (hk : k < 40) {g : Int} {cc : Bool} (hc : ceF (lineF p r) (regF p) k = cellL g cc) : gridF p (r * 40 + k) = cellL g cc := by
  have hrow : (rowR p r)[k]? = some (cellL g cc) := by
    rw [rowR, he, show spotsF [] (-1) = [] from rfl, layF_nil, List.getElem?_eq_getElem (by rw [rowL_len]; exact hk), rowL_get, if_pos hk, hc]
  rw [gridF, show (r * 40 + k) / 40 = r by omega, show (r * 40 + k) % 40 = k by omega, grid_noTall hn hr, List.getD_eq_getElem?_getD]
  split
  · rw [List.getElem?_map, hrow]; rfl
  · rw [hrow]; rfl
theorem pageL_get (P : Pg) (rev mix : Bool) {i : Nat} (hi : i < ((List.range 1000).map (pageC P rev mix)).length) : ((List.range 1000).map (pageC P rev mix))[i] = pageC P rev mix i := by simp
theorem page_rd (P : Pg) (rev mix : Bool) (i : Nat) (hi : i < 1000) : ((flat Cell.enc ((List.range 1000).map (pageC P rev mix))).drop (i * 10)).take 10 = (pageC P rev mix i).enc := by
  have h : i < ((List.range 1000).map (pageC P rev mix)).length := by simpa using hi
  rw [Cell.rd h, pageL_get P rev mix h]; rfl
theorem page_g0 (P : Pg) (rev mix : Bool) (i : Nat) (hi : i < 1000) : (flat Cell.enc ((List.range 1000).map (pageC P rev mix)))[i * 10]? = some (.int .i64 (pageC P rev mix i).glyph) := by
  have h : i < ((List.range 1000).map (pageC P rev mix)).length := by simpa using hi
  rw [Cell.g0 h, pageL_get P rev mix h]
theorem page_g2 (P : Pg) (rev mix : Bool) (i : Nat) (hi : i < 1000) : (flat Cell.enc ((List.range 1000).map (pageC P rev mix)))[i * 10 + 2]? = some (.int .i64 (pageC P rev mix i).bg) := by
  have h : i < ((List.range 1000).map (pageC P rev mix)).length := by simpa using hi
  rw [Cell.g2 h, pageL_get P rev mix h]
theorem zg_len : (repl 25 (repl 40 [AV.int IntKind.i64 0, AV.int IntKind.i64 0, AV.int IntKind.i64 0, AV.bool false, AV.bool false, AV.bool false, AV.bool false, AV.bool false, AV.int IntKind.i64 0, AV.int IntKind.i64 0])).length = 1000 * 10 := by rw [zgrid, Cell.flen]; simp
def hdF (news head none' : Bool) : Hd := { Hd.none with c1 := news, c3 := head, c6 := none' }
theorem page_val {P : Pg} {news head none' : Bool} (hF : P.hd = hdF news head none') {r k : Nat} (hk : k < 40) (rev mix : Bool) : pageC P rev mix (r * 40 + k) = shownC (if (if r = 0 then head else none') = true then bk else gridF P (r * 40 + k)) news rev mix := by
  rw [pageC, baseC, hF, show (r * 40 + k) / 40 = r by omega]
  simp [hidB, hdF, Hd.none]
section
variable {P : Pg} {news head none' sh tp : Bool} {xs : List Int} {r0 : Nat}
theorem all_noTall (hr1 : 1 ≤ r0) (hr2 : r0 < 25) (hline : ∀ r : Nat, r < 25 → lineF P r = if r = r0 then l0 xs else if r = 0 then List.replicate 40 104 else List.replicate 40 32) (hx : ∀ x ∈ xs, 0 ≤ x ∧ x < 256) : ∀ r : Nat, r < 25 → tallF (lineF P r) (regF P) 40 = false := by
  intro r hr
  refine tall_none _ _ ?_ 40
  rw [hline r hr]
  split
  · exact l0_no13 hx
  · split
    · exact const_no13 104 (by decide)
    · exact const_no13 32 (by decide)
theorem grid_r0 (hr1 : 1 ≤ r0) (hr2 : r0 < 25) (hreg : regF P = 0) (hline : ∀ r : Nat, r < 25 → lineF P r = if r = r0 then l0 xs else if r = 0 then List.replicate 40 104 else List.replicate 40 32) (he : P.extra = []) (hx : ∀ x ∈ xs, 0 ≤ x ∧ x < 256) {k : Nat} (hk : k < 40) :
    gridF P (r0 * 40 + k) = cellL (if k = 5 then 32 else charI 0 (tb (xs.getD k 0))) (decide (5 ≤ k)) := by
  refine grid_cell (all_noTall hr1 hr2 hline hx) he hr2 hk ?_
  rw [hline r0 hr2, if_pos rfl, hreg]
  exact l0_ce hx 0 hk
theorem grid_top (hr1 : 1 ≤ r0) (hr2 : r0 < 25) (hreg : regF P = 0) (hline : ∀ r : Nat, r < 25 → lineF P r = if r = r0 then l0 xs else if r = 0 then List.replicate 40 104 else List.replicate 40 32) (he : P.extra = []) (hx : ∀ x ∈ xs, 0 ≤ x ∧ x < 256) {k : Nat} (hk : k < 40) :
    gridF P (0 * 40 + k) = cellL 104 false := by
  refine grid_cell (all_noTall hr1 hr2 hline hx) he (by omega) hk ?_
  rw [hline 0 (by omega), if_neg (by omega), if_pos rfl, hreg, const_ce 104 0 (by decide) hk]
  decide
theorem val_X (hr1 : 1 ≤ r0) (hr2 : r0 < 25) (hF : P.hd = hdF news head none') (hreg : regF P = 0) (hline : ∀ r : Nat, r < 25 → lineF P r = if r = r0 then l0 xs else if r = 0 then List.replicate 40 104 else List.replicate 40 32) (he : P.extra = []) (hx : ∀ x ∈ xs, 0 ≤ x ∧ x < 256) (hsh : sh = (!none' && !news)) :
    ∀ k, k < 40 → pageC P false false (r0 * 40 + k) = if sh = true then cellL (if 5 ≤ k then 32 else charI 0 (tb (xs.getD k 0))) (decide (5 ≤ k)) else bk := by
  intro k hk
  rw [page_val hF hk, if_neg (show ¬ r0 = 0 by omega), grid_r0 hr1 hr2 hreg hline he hx hk, hsh]
  by_cases a : 5 ≤ k
  · cases none' <;> cases news <;> simp [shownC, cellL, bk, a]
  · have a2 : ¬ k = 5 := by omega
    cases none' <;> cases news <;> simp [shownC, cellL, bk, a, a2]
theorem val_Y (hr1 : 1 ≤ r0) (hr2 : r0 < 25) (hF : P.hd = hdF news head none') (hreg : regF P = 0) (hline : ∀ r : Nat, r < 25 → lineF P r = if r = r0 then l0 xs else if r = 0 then List.replicate 40 104 else List.replicate 40 32) (he : P.extra = []) (hx : ∀ x ∈ xs, 0 ≤ x ∧ x < 256) (hsh : sh = (!none' && !news)) :
    ∀ k, k < 40 → pageC P true false (r0 * 40 + k) = if sh = true then cellL (if k = 5 then 32 else charI 0 (tb (xs.getD k 0))) (decide (5 ≤ k)) else bk := by
  intro k hk
  rw [page_val hF hk, if_neg (show ¬ r0 = 0 by omega), grid_r0 hr1 hr2 hreg hline he hx hk, hsh]
  cases none' <;> cases news <;> simp [shownC, cellL, bk]
theorem val_M (hF : P.hd = hdF news head none') (hr1 : 1 ≤ r0) (hr2 : r0 < 25) (hreg : regF P = 0) (hline : ∀ r : Nat, r < 25 → lineF P r = if r = r0 then l0 xs else if r = 0 then List.replicate 40 104 else List.replicate 40 32) (he : P.extra = []) (hx : ∀ x ∈ xs, 0 ≤ x ∧ x < 256) :
    ∀ k, k < 40 → (pageC P true true (r0 * 40 + k)).bg = -1 := by
  intro k hk
  rw [page_val hF hk, if_neg (show ¬ r0 = 0 by omega), grid_r0 hr1 hr2 hreg hline he hx hk]
  cases none' <;> cases news <;> simp [shownC, cellL, bk]
theorem val_T (hr1 : 1 ≤ r0) (hr2 : r0 < 25) (hF : P.hd = hdF news head none') (hreg : regF P = 0) (hline : ∀ r : Nat, r < 25 → lineF P r = if r = r0 then l0 xs else if r = 0 then List.replicate 40 104 else List.replicate 40 32) (he : P.extra = []) (hx : ∀ x ∈ xs, 0 ≤ x ∧ x < 256) (htp : tp = (!head && !news)) :
    ∀ k, k < 40 → (pageC P false false k).glyph = if tp = true then 104 else 32 := by
  intro k hk
  have e := page_val (r := 0) hF hk false false
  rw [if_pos rfl, grid_top hr1 hr2 hreg hline he hx hk, Nat.zero_mul, Nat.zero_add] at e
  rw [e, htp]
  cases head <;> cases news <;> simp [shownC, cellL, bk]
end
theorem Pg.put_c1 {p : Pg} {x : AV} {b : Bool} : setR (p.enc x) 4 [.bool b] = (p.setHd { p.hd with c1 := b }).enc x := by
  unfold Pg.enc
  rw [setR_app_l (by rw [Hd.len]; exact Nat.le_of_ble_eq_true rfl)]
  rfl
theorem Pg.put_c3 {p : Pg} {x : AV} {b : Bool} : setR (p.enc x) 6 [.bool b] = (p.setHd { p.hd with c3 := b }).enc x := by
  unfold Pg.enc
  rw [setR_app_l (by rw [Hd.len]; exact Nat.le_of_ble_eq_true rfl)]
  rfl
theorem Pg.put_c6 {p : Pg} {x : AV} {b : Bool} : setR (p.enc x) 9 [.bool b] = (p.setHd { p.hd with c6 := b }).enc x := by
  unfold Pg.enc
  rw [setR_app_l (by rw [Hd.len]; exact Nat.le_of_ble_eq_true rfl)]
  rfl
theorem hd_put (news head none' : Bool) : setR (setR (setR (Pg.none.enc .nsl) 4 [.bool news]) 6 [.bool head]) 9 [.bool none'] = Pg.enc { Pg.none with hd := hdF news head none' } .nsl := by
  rw [Pg.put_c1, Pg.put_c3, Pg.put_c6]; rfl
theorem hd_len (news head : Bool) : (setR (Pg.none.enc .nsl) 4 [.bool news]).length = 1061 ∧ (setR (setR (Pg.none.enc .nsl) 4 [.bool news]) 6 [.bool head]).length = 1061 := by
  rw [Pg.put_c1, Pg.put_c3]
  exact ⟨Pg.len (Pg.setHd_ok Pg.none_ok), Pg.len (Pg.setHd_ok (Pg.setHd_ok Pg.none_ok))⟩
attribute [local irreducible] Pg.enc Hd.enc PK PF pageC gridF flat
theorem main (xs : List Int) (hx : ∀ x ∈ xs, 0 ≤ x ∧ x < 256) (hl : xs.length = 40) (row : Int) (news head none' : Bool) : callω L T 3 0 [.agg (xs.map (.int .u8)), .int .i64 row, .bool news, .bool head, .bool none'] [none, none, none, none, none] = some (.bool true, [none, none, none, none, none]) := by
  rw [call_ex (show T 3 = some (.code a3) from rfl) rfl rfl]
  have tn := t_Number (0 + 1) row 24 (by omega) (by omega)
  have oz := Pg.none_ok
  obtain ⟨r0, hrr, hr1, hr2⟩ : ∃ r : Nat, IntKind.i64.wrap (row % 24 + 1) = (r : Int) ∧ 1 ≤ r ∧ r < 25 := by
    rw [w_i64 (by omega) (by omega)]
    exact ⟨(row % 24 + 1).toNat, by omega, by omega, by omega⟩
  have hl1 := (hd_len news head).1
  have hl2 := (hd_len news head).2
  (have fA := And.intro @pgs (And.intro @Pg.zero_eq (And.intro @hl1 (And.intro @hl2 @hrr))); have c1 := fun x1 => t_law17_first x1; have c2 := tn; refine gox ?_; clear fA c1 c2)
  have lx : (xs.map (AV.int .u8)).length = 40 := by simp [hl]
  have gx : ∀ k, k < 40 → (xs.map (AV.int .u8))[k]? = some (.int .u8 (xs.getD k 0)) := fun k hk => geti (by omega) 0
  refine Eq.trans (head_eq (env' := [(1, .int .i64 r0), (2, .bool news), (3, .bool head), (4, .bool none'), (5, .ref 5 (0, 1) 0), (11, .bool true), (12, .ref 12 (0, 1 + 1) 0), (13, .int .i64 ((0 : Nat) : Int))]) (heap' := [(5, ⟨(0, 1), xs.map (.int .u8)⟩), (12, ⟨(0, 1 + 1), (PK (hdF news head none') xs r0 0).enc .nsl⟩)]) (by rw [hrr]; rfl) (by rw [PK_zero, ← hd_put]; rfl) rfl) ?_
  refine headX_up (fun k => ⟨[(1, .int .i64 r0), (2, .bool news), (3, .bool head), (4, .bool none'), (5, .ref 5 (0, 1) 0), (11, .bool true), (12, .ref 12 (0, 1 + 1) 0), (13, .int .i64 k)], [(5, ⟨(0, 1), xs.map (.int .u8)⟩), (12, ⟨(0, 1 + 1), (PK (hdF news head none') xs r0 k).enc .nsl⟩)], 1 + 1 + 1, 0⟩) 40 _ ?_ ?_ 0 (by omega)
  · intro k hk
    have gx := gx k hk
    have o1 := PK_ok (hdF news head none') xs r0 k
    have s1 := Pg.put_cell (x := .nsl) (v := tb (xs.getD k 0)) o1 hr2 hk
    have o2 := Pg.setCell_ok (r := r0) (k := k) (v := tb (xs.getD k 0)) o1
    have s2 := Pg.put_cell (x := .nsl) (r := 0) (v := 104) o2 (by omega) hk
    rw [PK_step _ _ hr1 hr2 hk] at s2
    simp only [Nat.zero_mul, Nat.add_zero] at s2
    have htb : bOr .u8 (bAnd .u8 (xs.getD k 0) 95) 32 = tb (xs.getD k 0) := rfl
    have L1 := Pg.len (x := .nsl) o1
    have L2 := Pg.len (x := .nsl) o2
    generalize tb (xs.getD k 0) = tv at *
    generalize xs.getD k 0 = xk at *
    generalize ((PK (hdF news head none') xs r0 k).setCell r0 k tv).enc .nsl = cB at *
    generalize (PK (hdF news head none') xs r0 k).enc .nsl = cA at *
    generalize xs.map (AV.int .u8) = cx at *
    (have fA := And.intro @gx (And.intro @lx (And.intro @s1 (And.intro @s2 (And.intro @L1 (And.intro @L2 (And.intro @htb (And.intro @Int.toNat_zero (And.intro @Nat.zero_mul @Nat.add_zero)))))))); refine gox ?_; clear fA)
    refine head_eq ?_ ?_ rfl
    · simp [wrap_succ hk (by omega)]
    · rfl
  · have o1 := PK_ok (hdF news head none') xs r0 40
    have s3 := Pg.put_cell (x := .nsl) (r := r0) (k := 5) (v := 24) o1 hr2 (by omega)
    have o3 := Pg.setCell_ok (r := r0) (k := 5) (v := 24) o1
    have s4 := Pg.put_there (x := .nsl) (r := r0) (b := true) o3 hr2
    have o4 := Pg.setThere_ok (r := r0) (b := true) o3
    have s5 := Pg.put_there (x := .nsl) (r := 0) (b := true) o4 (by omega)
    have oF := PF_ok (hdF news head none') xs r0
    rw [show (((PK (hdF news head none') xs r0 40).setCell r0 5 24).setThere r0 true).setThere 0 true = PF (hdF news head none') xs r0 from by rw [PF]] at s5
    have L3 := Pg.len (x := .nsl) o1
    have L4 := Pg.len (x := .nsl) o3
    have L5 := Pg.len (x := .nsl) o4
    have L6 := Pg.len (x := .nsl) oF
    have eF : (PF (hdF news head none') xs r0).extra = [] := by rw [PF, PK]; rfl
    have hF : (PF (hdF news head none') xs r0).hd = hdF news head none' := by rw [PF, PK]; rfl
    have dF : (PF (hdF news head none') xs r0).dflt = 0 := by rw [PF, PK]; rfl
    have xF : ExOK .nsl (PF (hdF news head none') xs r0).extra := Or.inr ⟨rfl, eF⟩
    have lF : (PF (hdF news head none') xs r0).extra.length < 1000000 := by rw [eF]; decide
    have t1 := t_Page (0 + 1) _ oF xF lF false false
    have t2 := t_Page (0 + 1) _ oF xF lF true false
    have t3 := t_Page (0 + 1) _ oF xF lF true true
    have W := Pg.whole (x := .nsl) oF
    have hline := fun r (hr : r < 25) => PF_line (hdF news head none') xs hr1 hr2 hr
    have hrow0 := PF_row (hdF news head none') xs hr1 hr2
    have hreg : regF (PF (hdF news head none') xs r0) = 0 := by
      unfold regF
      rw [dF, if_pos (by omega), hF]; rfl
    have hcell := fun k (hk : k < 40) => Pg.cell_at (x := .nsl) oF hr2 hk
    rw [hrow0] at hcell
    simp only [Nat.add_zero] at s5
    generalize hPF : PF (hdF news head none') xs r0 = P at *
    clear hPF
    have n1 := Cell.flen ((List.range 1000).map (pageC P false false))
    have n2 := Cell.flen ((List.range 1000).map (pageC P true false))
    have n3 := Cell.flen ((List.range 1000).map (pageC P true true))
    rw [List.length_map, List.length_range] at n1 n2 n3
    have rd1 := fun i hi => page_rd P false false i hi
    have rd2 := fun i hi => page_rd P true false i hi
    have rd3 := fun i hi => page_g2 P true true i hi
    have rd0 := fun i hi => page_g0 P false false i hi
    generalize flat Cell.enc ((List.range 1000).map (pageC P false false)) = G1 at *
    generalize flat Cell.enc ((List.range 1000).map (pageC P true false)) = G2 at *
    generalize flat Cell.enc ((List.range 1000).map (pageC P true true)) = G3 at *
    generalize P.enc .nsl = cP at *
    generalize (((PK (hdF news head none') xs r0 40).setCell r0 5 24).setThere r0 true).enc .nsl = c4 at *
    generalize ((PK (hdF news head none') xs r0 40).setCell r0 5 24).enc .nsl = c3 at *
    generalize (PK (hdF news head none') xs r0 40).enc .nsl = c2 at *
    have sG : ∀ G : List AV, G.length = 1000 * 10 → setR (repl 25 (repl 40 [AV.int IntKind.i64 0, AV.int IntKind.i64 0, AV.int IntKind.i64 0, AV.bool false, AV.bool false, AV.bool false, AV.bool false, AV.bool false, AV.int IntKind.i64 0, AV.int IntKind.i64 0])) 0 G = G := fun G h => setR_all (by rw [h, zg_len])
    have sG1 := sG G1 n1
    have sG2 := sG G2 n2
    have sG3 := sG G3 n3
    obtain ⟨sh, hsh⟩ : ∃ sh : Bool, sh = (!none' && !news) := ⟨_, rfl⟩
    obtain ⟨tp, htp⟩ : ∃ tp : Bool, tp = (!head && !news) := ⟨_, rfl⟩
    have vX := val_X hr1 hr2 hF hreg hline eF hx hsh
    have vY := val_Y hr1 hr2 hF hreg hline eF hx hsh
    have vM := val_M hF hr1 hr2 hreg hline eF hx
    have vT := val_T hr1 hr2 hF hreg hline eF hx htp
    refine goal_join (Q := ?kQ) (fun key => ?kk) ?kb
    case kk =>
      cases none' <;> cases news <;> cases head
      all_goals (have fA := And.intro @s3 (And.intro @s4 (And.intro @s5 (And.intro @L3 (And.intro @L4 (And.intro @L5 (And.intro @L6 (And.intro @W (And.intro @sG1 (And.intro @sG2 (And.intro @sG3 (And.intro @Int.toNat_zero (And.intro @Nat.zero_mul (And.intro @Nat.add_zero ((show Int.toNat 5 = 5 from rfl))))))))))))))); have c1 := t1; have c2 := t2; have c3 := t3; refine gox ?_; clear fA c1 c2 c3)
      all_goals refine Eq.trans (head_eq (env' := [(1, .int .i64 r0), (11, .bool true), (12, .ref 12 (0, 1 + 1) 0), (14, .ref 14 (0, 1 + 1 + 1) 0), (15, .ref 15 (0, 1 + 1 + 1 + 1) 0), (16, .ref 16 (0, 1 + 1 + 1 + 1 + 1) 0), (17, .bool sh), (18, .bool tp), (19, .int .i64 ((0 : Nat) : Int))]) (by rw [hsh, htp]; rfl) rfl rfl) ?_
      all_goals exact key.out
    clear sG1 sG2 sG3 sG t1 t2 t3 s3 s4 s5 L3 L4 L5 W hsh htp hline hreg hF dF eF xF lF hrow0
    refine headX_up (fun c => ⟨[(1, .int .i64 r0), (11, .bool true), (12, .ref 12 (0, 1 + 1) 0), (14, .ref 14 (0, 1 + 1 + 1) 0), (15, .ref 15 (0, 1 + 1 + 1 + 1) 0), (16, .ref 16 (0, 1 + 1 + 1 + 1 + 1) 0), (17, .bool sh), (18, .bool tp), (19, .int .i64 c)], [(12, ⟨(0, 1 + 1), cP⟩), (14, ⟨(0, 1 + 1 + 1), G1⟩), (15, ⟨(0, 1 + 1 + 1 + 1), G2⟩), (16, ⟨(0, 1 + 1 + 1 + 1 + 1), G3⟩)], 1 + 1 + 1 + 1 + 1 + 1 + 2 * c, 0⟩) 40 _ ?_ ?_ 0 (by omega)
    · intro c hc
      have rdP := hcell c hc
      rw [l0_get0 xs hc] at rdP
      have tl := t_r1_Latin (0 + 1) 0 (if c = 5 then 24 else tb (xs.getD c 0))
      have rd1 := rd1 (r0 * 40 + c) (by omega)
      have rd2 := rd2 (r0 * 40 + c) (by omega)
      have rd3 := rd3 (r0 * 40 + c) (by omega)
      have rd0 := rd0 c (by omega)
      rw [show (r0 * 40 + c) * 10 = r0 * 400 + c * 10 by omega] at rd1 rd2 rd3
      rw [vX c hc] at rd1
      rw [vY c hc] at rd2
      rw [vM c hc] at rd3
      rw [vT c hc] at rd0
      clear vX vY vM vT hcell
      cases h1 : sh
      · subst h1
        have h1 : ¬ (false = true) := by decide
        rcases Nat.lt_trichotomy c 5 with h2 | h2 | h2
        · rw [show (if false = true then cellL (if 5 ≤ c then 32 else charI 0 (tb (xs.getD c 0))) (decide (5 ≤ c)) else bk) = cellL 32 false from by simp [h1, bk, cellL]] at rd1
          rw [show (if false = true then cellL (if c = 5 then 32 else charI 0 (tb (xs.getD c 0))) (decide (5 ≤ c)) else bk) = cellL 32 false from by simp [h1, bk, cellL]] at rd2
          rw [show (if c = 5 then 24 else tb (xs.getD c 0)) = tb (xs.getD c 0) from if_neg (by omega)] at rdP tl
          simp only [Cell.enc, cellL] at rd1 rd2
          generalize charI 0 (tb (xs.getD c 0)) = q at *
          cases tp
          all_goals simp only [if_true, if_false, Bool.false_eq_true, Bool.true_eq_false] at rd0
          all_goals (have fA := And.intro @rdP (And.intro @rd1 (And.intro @rd2 (And.intro @rd3 (And.intro @rd0 (And.intro @n1 (And.intro @n2 (And.intro @n3 (And.intro @L6 (And.intro @Int.toNat_zero (And.intro @Nat.zero_mul (And.intro @Nat.zero_add @Nat.add_zero))))))))))); have c1 := tl; refine gox ?_; clear fA c1)
          all_goals refine head_eq ?_ rfl rfl
          all_goals simp [wrap_succ hc (by omega)]
        · rw [show (if false = true then cellL (if 5 ≤ c then 32 else charI 0 (tb (xs.getD c 0))) (decide (5 ≤ c)) else bk) = cellL 32 false from by simp [h1, bk, cellL]] at rd1
          rw [show (if false = true then cellL (if c = 5 then 32 else charI 0 (tb (xs.getD c 0))) (decide (5 ≤ c)) else bk) = cellL 32 false from by simp [h1, bk, cellL]] at rd2
          rw [show (if c = 5 then 24 else tb (xs.getD c 0)) = 24 from if_pos h2] at rdP tl
          simp only [Cell.enc, cellL] at rd1 rd2
          generalize charI 0 (tb (xs.getD c 0)) = q at *
          cases tp
          all_goals simp only [if_true, if_false, Bool.false_eq_true, Bool.true_eq_false] at rd0
          all_goals (have fA := And.intro @rdP (And.intro @rd1 (And.intro @rd2 (And.intro @rd3 (And.intro @rd0 (And.intro @n1 (And.intro @n2 (And.intro @n3 (And.intro @L6 (And.intro @Int.toNat_zero (And.intro @Nat.zero_mul (And.intro @Nat.zero_add @Nat.add_zero))))))))))); have c1 := tl; refine gox ?_; clear fA c1)
          all_goals refine head_eq ?_ rfl rfl
          all_goals simp [wrap_succ hc (by omega)]
        · rw [show (if false = true then cellL (if 5 ≤ c then 32 else charI 0 (tb (xs.getD c 0))) (decide (5 ≤ c)) else bk) = cellL 32 false from by simp [h1, bk, cellL]] at rd1
          rw [show (if false = true then cellL (if c = 5 then 32 else charI 0 (tb (xs.getD c 0))) (decide (5 ≤ c)) else bk) = cellL 32 false from by simp [h1, bk, cellL]] at rd2
          rw [show (if c = 5 then 24 else tb (xs.getD c 0)) = tb (xs.getD c 0) from if_neg (by omega)] at rdP tl
          simp only [Cell.enc, cellL] at rd1 rd2
          generalize charI 0 (tb (xs.getD c 0)) = q at *
          cases tp
          all_goals simp only [if_true, if_false, Bool.false_eq_true, Bool.true_eq_false] at rd0
          all_goals (have fA := And.intro @rdP (And.intro @rd1 (And.intro @rd2 (And.intro @rd3 (And.intro @rd0 (And.intro @n1 (And.intro @n2 (And.intro @n3 (And.intro @L6 (And.intro @Int.toNat_zero (And.intro @Nat.zero_mul (And.intro @Nat.zero_add @Nat.add_zero))))))))))); have c1 := tl; refine gox ?_; clear fA c1)
          all_goals refine head_eq ?_ rfl rfl
          all_goals simp [wrap_succ hc (by omega)]
      · subst h1
        have h1 : true = true := rfl
        rcases Nat.lt_trichotomy c 5 with h2 | h2 | h2
        · rw [show (if true = true then cellL (if 5 ≤ c then 32 else charI 0 (tb (xs.getD c 0))) (decide (5 ≤ c)) else bk) = cellL (charI 0 (tb (xs.getD c 0))) false from by simp [h1, show ¬ 5 ≤ c by omega]] at rd1
          rw [show (if true = true then cellL (if c = 5 then 32 else charI 0 (tb (xs.getD c 0))) (decide (5 ≤ c)) else bk) = cellL (charI 0 (tb (xs.getD c 0))) false from by simp [h1, show ¬ c = 5 by omega, show ¬ 5 ≤ c by omega]] at rd2
          rw [show (if c = 5 then 24 else tb (xs.getD c 0)) = tb (xs.getD c 0) from if_neg (by omega)] at rdP tl
          simp only [Cell.enc, cellL] at rd1 rd2
          generalize charI 0 (tb (xs.getD c 0)) = q at *
          have hcb : (false == decide (5 ≤ (c : Int))) = true := by rw [decide_eq_false (by omega)]; rfl
          cases tp
          all_goals simp only [if_true, if_false, Bool.false_eq_true, Bool.true_eq_false] at rd0
          all_goals (have fA := And.intro @rdP (And.intro @rd1 (And.intro @rd2 (And.intro @rd3 (And.intro @rd0 (And.intro @n1 (And.intro @n2 (And.intro @n3 (And.intro @L6 (And.intro @Int.toNat_zero (And.intro @Nat.zero_mul (And.intro @Nat.zero_add @Nat.add_zero))))))))))); have c1 := tl; refine gox ?_; clear fA c1)
          all_goals refine head_eq ?_ rfl rfl
          all_goals simp [wrap_succ hc (by omega)]
        · rw [show (if true = true then cellL (if 5 ≤ c then 32 else charI 0 (tb (xs.getD c 0))) (decide (5 ≤ c)) else bk) = cellL 32 true from by simp [h1, show 5 ≤ c by omega]] at rd1
          rw [show (if true = true then cellL (if c = 5 then 32 else charI 0 (tb (xs.getD c 0))) (decide (5 ≤ c)) else bk) = cellL 32 true from by simp [h1, h2]] at rd2
          rw [show (if c = 5 then 24 else tb (xs.getD c 0)) = 24 from if_pos h2] at rdP tl
          simp only [Cell.enc, cellL] at rd1 rd2
          generalize charI 0 (tb (xs.getD c 0)) = q at *
          have hcb : (true == decide (5 ≤ (c : Int))) = true := by rw [decide_eq_true (by omega)]; rfl
          cases tp
          all_goals simp only [if_true, if_false, Bool.false_eq_true, Bool.true_eq_false] at rd0
          all_goals (have fA := And.intro @rdP (And.intro @rd1 (And.intro @rd2 (And.intro @rd3 (And.intro @rd0 (And.intro @n1 (And.intro @n2 (And.intro @n3 (And.intro @L6 (And.intro @Int.toNat_zero (And.intro @Nat.zero_mul (And.intro @Nat.zero_add @Nat.add_zero))))))))))); have c1 := tl; refine gox ?_; clear fA c1)
          all_goals refine head_eq ?_ rfl rfl
          all_goals simp [wrap_succ hc (by omega)]
        · rw [show (if true = true then cellL (if 5 ≤ c then 32 else charI 0 (tb (xs.getD c 0))) (decide (5 ≤ c)) else bk) = cellL 32 true from by simp [h1, show 5 ≤ c by omega]] at rd1
          rw [show (if true = true then cellL (if c = 5 then 32 else charI 0 (tb (xs.getD c 0))) (decide (5 ≤ c)) else bk) = cellL (charI 0 (tb (xs.getD c 0))) true from by simp [h1, show ¬ c = 5 by omega, show 5 ≤ c by omega]] at rd2
          rw [show (if c = 5 then 24 else tb (xs.getD c 0)) = tb (xs.getD c 0) from if_neg (by omega)] at rdP tl
          simp only [Cell.enc, cellL] at rd1 rd2
          generalize charI 0 (tb (xs.getD c 0)) = q at *
          have hcb : (true == decide (5 ≤ (c : Int))) = true := by rw [decide_eq_true (by omega)]; rfl
          by_cases hq : (32 : Int) = q <;> cases tp
          all_goals simp only [if_true, if_false, Bool.false_eq_true, Bool.true_eq_false] at rd0
          all_goals (have fA := And.intro @rdP (And.intro @rd1 (And.intro @rd2 (And.intro @rd3 (And.intro @rd0 (And.intro @n1 (And.intro @n2 (And.intro @n3 (And.intro @L6 (And.intro @Int.toNat_zero (And.intro @Nat.zero_mul (And.intro @Nat.zero_add @Nat.add_zero))))))))))); have c1 := tl; refine gox ?_; clear fA c1)
          all_goals refine head_eq ?_ rfl rfl
          all_goals simp [wrap_succ hc (by omega)]
    · (refine gox ?_)
      (refine finx ?_; try with_reducible rfl)
      try rfl
theorem law (cs : List AV) (h : ShpAll L 5 Try.f3.params.toList cs) : ∃ lent, callω L T 3 0 cs (List.replicate Try.f3.params.toList.length none) = some (.bool true, lent) := by
  rw [Try.params3] at h
  obtain ⟨p1, _, rfl, hl1, hp1, h1⟩ := shpAll_arr rfl h
  obtain ⟨row, _, rfl, _, h2⟩ := shpAll_int rfl h1
  obtain ⟨b1, _, rfl, h3⟩ := shpAll_bool rfl h2
  obtain ⟨b2, _, rfl, h4⟩ := shpAll_bool rfl h3
  obtain ⟨b3, _, rfl, h5⟩ := shpAll_bool rfl h4
  obtain rfl := shpAll_nil h5
  obtain ⟨xs, e1, e2, e5⟩ := ints_of_parts (n := 3) rfl p1 hp1
  rw [e1]
  exact ⟨_, main xs (fun x hx => by obtain ⟨m, rfl, hm⟩ := u8_wf (e5 x hx); omega) (by omega) row b1 b2 b3⟩

open Go.ChangeShapes Go.WideShapes Go.ChangeAt Go.RowKit
theorem lifted (os : Os) (started : os.Started) (H : Type) (enc : TypeId × Value → H) :
    ReturnsInHanded {} Try.checked os 3 .any (Rows.renderFlagsSpec.pre6 enc Try.prog Try.f3 Rows.renderFlagsRow.domain false) (Rows.renderFlagsSpec.post enc Try.prog Try.f3 false true false false) := by
  refine law_lift (C := Try.checked) (n := 5) own started (by kernel_rfl) Try.func3 L_ok T_ok (show T 3 = some (.code a3) from rfl) laid (by kernel_rfl) rfl Try.underlying4 rfl ?_ law
    (ChangeSpec.witness6 (enc := enc) (C := Try.checked) false ⟨#[], #[.agg (List.replicate 40 (Value.int .u8 0)).toArray, .int .i64 0, .bool false, .bool false, .bool false], []⟩ 8 (by kernel_rfl) (by kernel_rfl) (by kernel_rfl) (by kernel_rfl))
  intro H ds hl
  rw [Try.params3] at hl
  match ds, hl with
  | [d1, d2, d3, d4, d5], _ => rfl

theorem over : Rows.renderFlagsRow.holds Try.pinned (OpenSpec.ofChange Rows.renderFlagsSpec) :=
  OpenClaim.holds_of_wide 3 Try.f3 rfl rfl rfl rfl rfl rfl rfl ⟨rfl, rfl, rfl, rfl, rfl⟩ rfl rfl rfl rfl rfl (by kernel_rfl) Try.func3 (by kernel_rfl)
    (of_decide_eq_true (by kernel_rfl)) (by unfold Func.isWrapper; first | (rw [if_pos (by decide +kernel)]; kernel_rfl) | (rw [if_neg (by decide +kernel)]; exact ⟨rfl, rfl⟩))
    (fun os started H enc _ => lifted os started H enc)

theorem proved : Rows.RenderFlagsSaid :=
  over
#print axioms proved
end Go.Proofs.Ytkienchmbfhigaa.renderFlags
