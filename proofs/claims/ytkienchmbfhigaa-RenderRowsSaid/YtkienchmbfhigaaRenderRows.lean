/- RenderRows: a page of one row of letters shows them there, white on black, and blanks elsewhere. No condition. -/
import Derived.Test.YtkienchmbfhigaaRows
import Derived.Test.YtkienchmbfhigaaSimT
import Derived.Test.YtkienchmbfhigaaSimY
import Derived.Test.YtkienchmbfhigaaPrender5
import Derived.Test.YtkienchmbfhigaaPattr5
import Derived.Test.YtkienchmbfhigaaPattr7
set_option maxRecDepth 100000
set_option maxHeartbeats 40000000
set_option linter.unusedSimpArgs false
set_option linter.unusedVariables false
namespace Go.Proofs.Ytkienchmbfhigaa.renderRows
open Go Go.Sim
attribute [local irreducible] chk brX getX strX setX takeX normX fillX lendX partsX opsX callK lentK giveX adoptX resX joinX headX loopX seqK blkK regK finX exOps ex eqT
attribute [local simp] setR_int setR_bool setR_zero setR_succ repl_int repl_bool List.getElem?_cons_zero List.getElem?_cons_succ List.getElem?_nil w_i64 w_u64 w_u8 bAnd_u8 bOr_u8 bXor_u8 bAndNot_u8 bShl_u8 wrap_u8_range all_plain_int all_plain_bool all_plain_app pl_bool pl_int pl_str pl_nilp pl_nsl pl_nilI pl_nilF take_map_len AV.cells TI.isAgg

attribute [local simp] Cell.flen Cell.rd Cell.g0 Cell.g1 Cell.g2 Cell.g3 Cell.g4 Cell.g5 Cell.g6 Cell.g7 Cell.g8 Cell.g9 Cell.put Cell.pute Cell.s0 Cell.s1 Cell.s2 Cell.s3 Cell.s4 Cell.s5 Cell.s6 Cell.s7 Cell.s8 Cell.s9 Cell.zero Cell.enc Tr.flen Tr.rd Tr.g0 Tr.g1 Tr.g2 Tr.put Tr.pute Tr.s0 Tr.s1 Tr.s2 Tr.zero Tr.enc Hd.flen Hd.rd Hd.g0 Hd.g1 Hd.g2 Hd.g3 Hd.g4 Hd.g5 Hd.g6 Hd.g7 Hd.g8 Hd.g9 Hd.g10 Hd.g11 Hd.g12 Hd.g13 Hd.g14 Hd.put Hd.pute Hd.s0 Hd.s1 Hd.s2 Hd.s3 Hd.s4 Hd.s5 Hd.s6 Hd.s7 Hd.s8 Hd.s9 Hd.s10 Hd.s11 Hd.s12 Hd.s13 Hd.s14 Hd.zero Hd.enc
def tb (x : Int) : Int := bOr .u8 (bAnd .u8 x 95) 32
theorem tb_ok {x : Int} (h0 : 0 ≤ x) (h1 : x < 256) : 32 ≤ tb x ∧ tb x < 128 ∧ bAnd .u8 (tb x) 127 = tb x := by
  have h := byteB_get (p := fun x => decide (32 ≤ tb x ∧ tb x < 128 ∧ bAnd .u8 (tb x) 127 = tb x)) (by decide +kernel) h0 h1
  exact of_decide_eq_true h
theorem const_st (v o : Int) (hv : 32 ≤ bAnd .u8 v 127) : ∀ k, k ≤ 40 → PlainS (stF (List.replicate 40 v) o k) false
  | 0, _ => start_plain
  | k + 1, hk => by
    show PlainS (stepF (stF (List.replicate 40 v) o k) ((List.replicate 40 v).getD k 32) o).1 _
    rw [List.getD_eq_getElem?_getD, List.getElem?_replicate_of_lt (by omega)]
    exact (step_letter (const_st v o hv k (by omega)) hv).1
theorem const_ce (v o : Int) (hv : 32 ≤ bAnd .u8 v 127) {k : Nat} (hk : k < 40) : ceF (List.replicate 40 v) o k = cellL (charI o (bAnd .u8 v 127)) false := by
  show (stepF (stF (List.replicate 40 v) o k) ((List.replicate 40 v).getD k 32) o).2 = _
  rw [List.getD_eq_getElem?_getD, List.getElem?_replicate_of_lt hk]
  exact (step_letter (const_st v o hv k (by omega)) hv).2
theorem const_no13 (v : Int) (hv : bAnd .u8 v 127 ≠ 13) (k : Nat) : bAnd .u8 ((List.replicate 40 v).getD k 32) 127 ≠ 13 := by
  rw [List.getD_eq_getElem?_getD, List.getElem?_replicate]
  split
  · exact hv
  · decide
theorem fl0_L (g : Int) (cc : Bool) : fl0 (cellL g cc) = cellL g cc := rfl
theorem grid_cell {p : Pg} (hn : ∀ r : Nat, r < 25 → tallF (lineF p r) (regF p) 40 = false) (he : p.extra = []) {r k : Nat} (hr : r < 25) (hk : k < 40) {g : Int} {cc : Bool} (hc : ceF (lineF p r) (regF p) k = cellL g cc) : gridF p (r * 40 + k) = cellL g cc := by
  have hrow : (rowR p r)[k]? = some (cellL g cc) := by
    rw [rowR, he, show spotsF [] (-1) = [] from rfl, layF_nil, List.getElem?_eq_getElem (by rw [rowL_len]; exact hk), rowL_get, if_pos hk, hc]
  rw [gridF, show (r * 40 + k) / 40 = r by omega, show (r * 40 + k) % 40 = k by omega, grid_noTall hn hr, List.getD_eq_getElem?_getD]
  split
  · rw [List.getElem?_map, hrow]; rfl
  · rw [hrow]; rfl
theorem pageL_get (P : Pg) (rev mix : Bool) {i : Nat} (hi : i < ((List.range 1000).map (pageC P rev mix)).length) : ((List.range 1000).map (pageC P rev mix))[i] = pageC P rev mix i := by simp
theorem page_rd (P : Pg) (rev mix : Bool) (i : Nat) (hi : i < 1000) : ((flat Cell.enc ((List.range 1000).map (pageC P rev mix))).drop (i * 10)).take 10 = (pageC P rev mix i).enc := by
  have h : i < ((List.range 1000).map (pageC P rev mix)).length := by simpa using hi
  rw [Cell.rd h, pageL_get P rev mix h]; rfl
theorem zg_len : (repl 25 (repl 40 [AV.int IntKind.i64 0, AV.int IntKind.i64 0, AV.int IntKind.i64 0, AV.bool false, AV.bool false, AV.bool false, AV.bool false, AV.bool false, AV.int IntKind.i64 0, AV.int IntKind.i64 0])).length = 1000 * 10 := by rw [zgrid, Cell.flen]; simp
theorem odd_made {x : Int} (h0 : 0 ≤ x) (h1 : x < 256) : oddI (makeOddI x) = true := byteB_get (p := fun x => oddI (makeOddI x)) (by decide +kernel) h0 h1
theorem made_and {x : Int} (h0 : 0 ≤ x) (h1 : x < 256) : bAnd .u8 (makeOddI x) 127 = bAnd .u8 x 127 := by
  simpa using byteB_get (p := fun x => bAnd .u8 (makeOddI x) 127 == bAnd .u8 x 127) (by decide +kernel) h0 h1
/-- The letters. -/
def lt (xs : List Int) (k : Nat) : Int := if k < xs.length then tb (xs.getD k 0) else 32
theorem lt_ok {xs : List Int} (hx : ∀ x ∈ xs, 0 ≤ x ∧ x < 256) (k : Nat) : 32 ≤ lt xs k ∧ lt xs k < 128 ∧ bAnd .u8 (lt xs k) 127 = lt xs k := by
  unfold lt
  split
  · have h := u8_getD hx k
    exact tb_ok h.1 h.2
  · exact ⟨by decide, by decide, by decide⟩
def rowB (xs : List Int) : List Int := (List.range 40).map fun k => makeOddI (lt xs k)
theorem rowB_len (xs : List Int) : (rowB xs).length = 40 := by simp [rowB]
theorem rowB_get (xs : List Int) {k : Nat} (hk : k < 40) (d : Int) : (rowB xs).getD k d = makeOddI (lt xs k) := by simp [rowB, List.getD_eq_getElem?_getD, hk]
theorem rowB_rng (xs : List Int) : ∀ x ∈ rowB xs, 0 ≤ x ∧ x < 256 := by
  intro x hx
  obtain ⟨k, _, rfl⟩ := List.mem_map.1 hx
  exact makeOddI_range _
def letL (xs : List Int) : List Int := (List.range 40).map (lt xs)
theorem letL_get (xs : List Int) {k : Nat} (hk : k < 40) (d : Int) : (letL xs).getD k d = lt xs k := by simp [letL, List.getD_eq_getElem?_getD, hk]
theorem mrg_row {xs : List Int} (hx : ∀ x ∈ xs, 0 ≤ x ∧ x < 256) (old : List Int) (had : Bool) : mrg old (rowB xs) had = letL xs := by
  unfold mrg letL
  apply List.map_congr_left
  intro k hk
  have hk := List.mem_range.1 hk
  have h := lt_ok hx k
  rw [mrgE, rowB_get xs hk, if_pos (odd_made (by omega) (by omega)), made_and (by omega) (by omega), h.2.2]
def PR (o : Int) : Pg := { Pg.none with hd := { Hd.none with opt := o } }
theorem PR_ok (o : Int) : (PR o).Ok := ⟨Pg.none_ok.rows, Pg.none_ok.there, Pg.none_ok.links⟩
def PS2 (o : Int) (xs : List Int) (r0 : Nat) : Pg := rowF (PR o) r0 (rowB xs)
theorem PS2_eq {o : Int} {xs : List Int} (hx : ∀ x ∈ xs, 0 ≤ x ∧ x < 256) {r0 : Nat} (hr1 : 1 ≤ r0) (hr2 : r0 < 25) : PS2 o xs r0 = ((PR o).setRow r0 (letL xs)).setThere r0 true := by
  unfold PS2 rowF
  rw [if_neg (by omega)]
  simp only [Int.toNat_natCast]
  rw [mrg_row hx]
theorem letL_len (xs : List Int) : (letL xs).length = 40 := by simp [letL]
theorem PS2_ok {o : Int} {xs : List Int} (hx : ∀ x ∈ xs, 0 ≤ x ∧ x < 256) {r0 : Nat} (hr1 : 1 ≤ r0) (hr2 : r0 < 25) : (PS2 o xs r0).Ok := by
  rw [PS2_eq hx hr1 hr2]
  exact Pg.setThere_ok (Pg.setRow_ok (PR_ok o) hr2 (letL_len xs))
theorem Pg.row_setRow {p : Pg} (h : p.Ok) {r : Nat} {m : List Int} (hr : r < 25) (hm : m.length = 40) : (p.setRow r m).row r = m := by
  have e := h.rows
  have l1 : (p.rows.take (r * 40)).length = r * 40 := by simp; omega
  simp only [Pg.setRow, Pg.row]
  rw [List.drop_append, List.drop_eq_nil_of_le (by omega), l1, Nat.sub_self, List.drop_zero, List.nil_append, List.take_append_of_le_length (by omega), List.take_of_length_le (by omega)]
theorem PS2_line {o : Int} {xs : List Int} (hx : ∀ x ∈ xs, 0 ≤ x ∧ x < 256) {r0 : Nat} (hr1 : 1 ≤ r0) (hr2 : r0 < 25) {r : Nat} (hr : r < 25) : lineF (PS2 o xs r0) r = if r = r0 then letL xs else List.replicate 40 32 := by
  rw [PS2_eq hx hr1 hr2]
  unfold lineF
  rw [if_neg (by omega)]
  simp only [Int.toNat_natCast]
  have hi : (((PR o).setRow r0 (letL xs)).setThere r0 true).is r = decide (r = r0) := by
    have e : (((PR o).setRow r0 (letL xs)).setThere r0 true).is r = ((List.replicate 25 false).set r0 true).getD r false := rfl
    rw [e, List.getD_eq_getElem?_getD, List.getElem?_set]
    by_cases b : r0 = r
    · subst b; simp [hr]
    · rw [if_neg b, List.getElem?_replicate_of_lt hr]
      simp [show ¬ r = r0 from fun x => b x.symm]
  rw [hi]
  by_cases b : r = r0
  · rw [if_pos b, if_pos (by simp [b]), b]
    exact Pg.row_setRow (PR_ok o) hr2 (letL_len xs)
  · rw [if_neg b, if_neg (by simp [b])]
theorem let_st {xs : List Int} (hx : ∀ x ∈ xs, 0 ≤ x ∧ x < 256) (o : Int) : ∀ k, k ≤ 40 → PlainS (stF (letL xs) o k) false
  | 0, _ => start_plain
  | k + 1, hk => by
    show PlainS (stepF (stF (letL xs) o k) ((letL xs).getD k 32) o).1 _
    rw [letL_get xs (by omega)]
    have h := lt_ok hx k
    exact (step_letter (let_st hx o k (by omega)) (by rw [h.2.2]; exact h.1)).1
theorem let_ce {xs : List Int} (hx : ∀ x ∈ xs, 0 ≤ x ∧ x < 256) (o : Int) {k : Nat} (hk : k < 40) : ceF (letL xs) o k = cellL (charI o (lt xs k)) false := by
  show (stepF (stF (letL xs) o k) ((letL xs).getD k 32) o).2 = _
  rw [letL_get xs hk]
  have h := lt_ok hx k
  rw [(step_letter (let_st hx o k (by omega)) (by rw [h.2.2]; exact h.1)).2, h.2.2]
theorem let_no13 {xs : List Int} (hx : ∀ x ∈ xs, 0 ≤ x ∧ x < 256) (k : Nat) : bAnd .u8 ((letL xs).getD k 32) 127 ≠ 13 := by
  by_cases hk : k < 40
  · rw [letL_get xs hk]
    have h := lt_ok hx k
    omega
  · rw [List.getD_eq_getElem?_getD, List.getElem?_eq_none (by simp [letL]; omega)]
    decide
theorem char_made (o : Int) {x : Int} (h0 : 0 ≤ x) (h1 : x < 256) : charI o (makeOddI x) = charI o x := by
  unfold charI lplainI
  rw [made_and h0 h1]
theorem char_sp : ∀ o : Nat, o < 7 → charI o 32 = 32 := by decide +kernel
theorem opt_same : ∀ o : Nat, o < 7 → optI 0 o = o := by decide
theorem row_val {P : Pg} {o : Nat} {xs : List Int} (hx : ∀ x ∈ xs, 0 ≤ x ∧ x < 256) {r0 : Nat} (ho : o < 7) (hr0 : r0 < 25) (hF : P.hd = { Hd.none with opt := (o : Int) }) (hd : P.dflt = 0) (hline : ∀ r : Nat, r < 25 → lineF P r = if r = r0 then letL xs else List.replicate 40 32) (he : P.extra = []) {r k : Nat} (hr : r < 25) (hk : k < 40) :
    pageC P false false (r * 40 + k) = cellL (if r = r0 then charI o (lt xs k) else 32) false := by
  have hn : ∀ r : Nat, r < 25 → tallF (lineF P r) (regF P) 40 = false := by
    intro r hr
    refine tall_none _ _ ?_ 40
    rw [hline r hr]
    split
    · exact let_no13 hx
    · exact const_no13 32 (by decide)
  have hreg : regF P = o := by
    unfold regF
    rw [hd, if_pos (by omega), hF]
    exact opt_same o ho
  have hp : pageC P false false (r * 40 + k) = shownC (gridF P (r * 40 + k)) false false false := by
    rw [pageC, baseC, hF]
    have : hidB { Hd.none with opt := (o : Int) } ((r * 40 + k) / 40) = false := by
      unfold hidB; split <;> rfl
    rw [this, if_neg (by decide)]; rfl
  have hg : gridF P (r * 40 + k) = cellL (if r = r0 then charI o (lt xs k) else 32) false := by
    refine grid_cell hn he hr hk ?_
    rw [hline r hr, hreg]
    by_cases b : r = r0
    · rw [if_pos b, if_pos b]; exact let_ce hx _ hk
    · rw [if_neg b, if_neg b, const_ce 32 _ (by decide) hk]
      rw [show bAnd .u8 32 127 = 32 from by decide, char_sp o ho]
  rw [hp, hg]
  rfl
theorem Pg.put_opt {o : Int} : setR (Pg.none.enc .nsl) 14 [.int .i64 o] = (PR o).enc .nsl := by
  unfold Pg.enc PR
  rw [setR_app_l (by rw [Hd.len]; exact Nat.le_of_ble_eq_true rfl)]
  rfl
attribute [local irreducible] Pg.enc Hd.enc PR PS2 pageC gridF flat lt makeOddI
theorem main (row o : Int) (xs : List Int) (hx : ∀ x ∈ xs, 0 ≤ x ∧ x < 256) : callω L T 6 0 [.int .i64 row, .isl 1 xs.length (xs.map (.int .u8)), .int .i64 o] [none, none, none] = some (.bool true, [none, none, none]) := by
  rw [call_ex (show T 6 = some (.code a6) from rfl) rfl rfl]
  have tn := t_Number (0 + 1) row 23 (by omega) (by omega)
  have tn2 := t_Number (0 + 1) o 7 (by omega) (by omega)
  have oz := Pg.none_ok
  obtain ⟨r0, hrr, hr1, hr2⟩ : ∃ r : Nat, IntKind.i64.wrap (row % 23 + 1) = (r : Int) ∧ 1 ≤ r ∧ r < 24 := by
    rw [w_i64 (by omega) (by omega)]
    exact ⟨(row % 23 + 1).toNat, by omega, by omega, by omega⟩
  obtain ⟨q, hqq, hq7⟩ : ∃ q : Nat, o % 7 = (q : Int) ∧ q < 7 := ⟨(o % 7).toNat, by omega, by omega⟩
  rw [hqq] at tn2
  by_cases h1 : 40 < xs.length
  · (have c1 := fun x1 => t_law17_first x1; have c2 := tn; have c3 := tn2; refine gox ?_; clear c1 c2 c3)
    (refine finx ?_; try with_reducible rfl)
    try rfl
  have s1 := Pg.put_opt (o := (q : Int))
  have L1 := Pg.len (x := .nsl) oz
  (have fA := And.intro @pgs (And.intro @Pg.zero_eq (And.intro @L1 @s1)); have c1 := fun x1 => t_law17_first x1; have c2 := tn; have c3 := tn2; refine gox ?_; clear fA c1 c2 c3)
  have gx : ∀ k, k < xs.length → (xs.map (AV.int .u8))[k]? = some (.int .u8 (xs.getD k 0)) := fun k hk => geti hk 0
  have lB := rowB_len xs
  refine Eq.trans (head_eq (env' := [(0, .int .i64 r0), (1, .isl 1 xs.length (xs.map (.int .u8))), (2, .int .i64 q), (7, .bool true), (8, .ref 8 (0, 1) 0), (9, .msl 9 (0, 1 + 1) 1 0 0), (10, .int .i64 ((0 : Nat) : Int))]) (heap' := [(8, ⟨(0, 1), (PR q).enc .nsl⟩), (9, ⟨(0, 1 + 1), tk8 (rowB xs) 0⟩)]) (by rw [hrr]; rfl) (by rw [tk8_zero]) rfl) ?_
  clear tn tn2 L1 s1
  refine headX_for (fun _ (_ : Nat × Nat) => True) (fun k (x : Nat × Nat) => ⟨[(0, .int .i64 r0), (1, .isl 1 xs.length (xs.map (.int .u8))), (2, .int .i64 q), (7, .bool true), (8, .ref 8 (0, 1) 0), (9, .msl 9 (0, x.1) 1 0 k), (10, .int .i64 k)], [(8, ⟨(0, 1), (PR q).enc .nsl⟩), (9, ⟨(0, x.1), tk8 (rowB xs) k⟩)], x.2, 0⟩) 40 _ ?_ ?_ (1 + 1, 1 + 1 + 1) trivial
  · rintro k ⟨g, nx⟩ hk - ih
    dsimp only at ih ⊢
    refine Eq.trans ?_ (ih (nx + 1, nx + 1 + 1) trivial)
    have m8 := tk8_more (l := rowB xs) (k := k) (by omega)
    have l8 := tk8_len (l := rowB xs) (k := k) (by omega)
    rw [rowB_get xs hk] at m8
    have tm := t_ref1_MakeOdd (0 + 1) (lt xs k)
    clear ih
    generalize tk8 (rowB xs) (k + 1) = b2 at *
    generalize tk8 (rowB xs) k = b1 at *
    by_cases hkl : k < xs.length
    · have e : lt xs k = bOr .u8 (bAnd .u8 (xs.getD k 0) 95) 32 := by unfold lt; rw [if_pos hkl]; rfl
      have gx := gx k hkl
      rw [e] at tm m8
      generalize makeOddI (bOr .u8 (bAnd .u8 (xs.getD k 0) 95) 32) = mo at *
      (have fA := And.intro @gx (And.intro @l8 (@List.drop_zero AV)); have c1 := tm; refine gox ?_; clear fA c1)
      refine head_eq ?_ (by rw [← m8]; rfl) rfl
      simp [wrap_succ hk (by omega)]
    · have e : lt xs k = 32 := by unfold lt; rw [if_neg hkl]
      rw [e] at tm m8
      generalize makeOddI 32 = mo at *
      (have fA := And.intro @l8 (@List.drop_zero AV); have c1 := tm; refine gox ?_; clear fA c1)
      refine head_eq ?_ (by rw [← m8]; rfl) rfl
      simp [wrap_succ hk (by omega)]
  · rintro ⟨g, nx⟩ -
    dsimp only
    have h8 := tk8_all (rowB xs)
    rw [lB] at h8
    rw [h8]
    have oR := PR_ok q
    have tR := t_page_Row (0 + 1) (PR q) oR (x := .nsl) (Or.inr ⟨rfl, by unfold PR; rfl⟩) (by unfold PR; exact Nat.le_of_ble_eq_true rfl) r0 (rowB xs) (by omega) (rowB_rng xs)
    rw [lB, show rowF (PR q) r0 (rowB xs) = PS2 q xs r0 from by unfold PS2; rfl] at tR
    have oF := PS2_ok (o := (q : Int)) hx hr1 (show r0 < 25 by omega)
    have eP : (PR (q : Int)).extra = [] := by unfold PR; rfl
    rw [eP] at tR
    have eF : (PS2 (q : Int) xs r0).extra = [] := by rw [PS2_eq hx hr1 (by omega)]; exact eP
    have hF : (PS2 (q : Int) xs r0).hd = { Hd.none with opt := (q : Int) } := by rw [PS2_eq hx hr1 (by omega)]; unfold PR; rfl
    have dF : (PS2 (q : Int) xs r0).dflt = 0 := by rw [PS2_eq hx hr1 (by omega)]; unfold PR; rfl
    have t1 := t_Page (0 + 1) _ oF (x := .isl 3 ([] : List Tr).length (flat Tr.enc [])) (Or.inl (by rw [eF])) (by rw [eF]; decide) false false
    have hline := fun r (hr : r < 25) => PS2_line (o := (q : Int)) hx hr1 (show r0 < 25 by omega) hr
    have bv := fun r k (hr : r < 25) (hk : k < 40) => row_val (P := PS2 (q : Int) xs r0) hx hq7 (show r0 < 25 by omega) hF dF hline eF hr hk
    have WR := Pg.whole (x := .nsl) oR
    have LR := Pg.len (x := .nsl) oR
    have L6 := Pg.len (x := .isl 3 ([] : List Tr).length (flat Tr.enc [])) oF
    have W6 := Pg.whole (x := .isl 3 ([] : List Tr).length (flat Tr.enc [])) oF
    have S6 := Pg.put_all (x := .nsl) (y := .isl 3 ([] : List Tr).length (flat Tr.enc [])) oR oF
    have lb8 : ((rowB xs).map (AV.int .u8)).length = 40 := by rw [List.length_map, lB]
    have tkb : ((rowB xs).map (AV.int .u8)).take 40 = (rowB xs).map (.int .u8) := List.take_of_length_le (by omega)
    have gB : ∀ k, k < 40 → ((rowB xs).map (AV.int .u8))[k]? = some (.int .u8 (makeOddI (lt xs k))) := fun k hk => by rw [← rowB_get xs hk 0]; exact geti (by omega) 0
    generalize PS2 (q : Int) xs r0 = P at *
    clear hline hF dF eF
    have n1 := Cell.flen ((List.range 1000).map (pageC P false false))
    rw [List.length_map, List.length_range] at n1
    have rd1 := fun i hi => page_rd P false false i hi
    generalize flat Cell.enc ((List.range 1000).map (pageC P false false)) = G1 at *
    generalize P.enc (.isl 3 ([] : List Tr).length (flat Tr.enc [])) = cP at *
    generalize (PR (q : Int)).enc .nsl = cR at *
    generalize (rowB xs).map (AV.int .u8) = cB at *
    have sG1 : setR (repl 25 (repl 40 [AV.int IntKind.i64 0, AV.int IntKind.i64 0, AV.int IntKind.i64 0, AV.bool false, AV.bool false, AV.bool false, AV.bool false, AV.bool false, AV.int IntKind.i64 0, AV.int IntKind.i64 0])) 0 G1 = G1 := setR_all (by rw [n1, zg_len])
    (have fA := And.intro @WR (And.intro @LR (And.intro @L6 (And.intro @W6 (And.intro @S6 (And.intro @lb8 (And.intro @tkb (And.intro @sG1 (@List.drop_zero AV)))))))); have c1 := tR; have c2 := t1; refine gox ?_; clear fA c1 c2)
    clear tR t1 WR LR L6 W6 S6 sG1 h8
    refine headX_upN (fun r nz => ⟨[(0, .int .i64 r0), (2, .int .i64 q), (7, .bool true), (9, .msl 9 (0, g) 1 0 40), (12, .ref 12 (0, nx) 0), (13, .int .i64 r)], [(9, ⟨(0, g), cB⟩), (12, ⟨(0, nx), G1⟩)], nz, 0⟩) 25 _ ?_ ?_ 0 _ (by omega)
    · intro r nz hr
      refine ⟨nz + 40, ?_⟩
      (refine gox ?_)
      refine headX_up (fun c => ⟨[(0, .int .i64 r0), (2, .int .i64 q), (7, .bool true), (9, .msl 9 (0, g) 1 0 40), (12, .ref 12 (0, nx) 0), (13, .int .i64 r), (14, .int .i64 c)], [(9, ⟨(0, g), cB⟩), (12, ⟨(0, nx), G1⟩)], nz + c, 0⟩) 40 _ ?_ ?_ 0 (by omega)
      · intro c hc
        have rd := rd1 (r * 40 + c) (by omega)
        rw [show (r * 40 + c) * 10 = r * 400 + c * 10 by omega, bv r c hr hc] at rd
        have gB := gB c hc
        have tl := t_r1_Latin (0 + 1) q (makeOddI (lt xs c))
        have hl := lt_ok hx c
        rw [char_made _ (by omega) (by omega)] at tl
        clear rd1 bv
        generalize makeOddI (lt xs c) = mo at *
        by_cases h1' : r = r0
        · rw [if_pos h1'] at rd
          simp only [Cell.enc, cellL] at rd
          generalize charI q (lt xs c) = ch at *
          (have fA := And.intro @rd (And.intro @n1 (And.intro @gB @lb8)); have c1 := tl; refine gox ?_; clear fA c1)
          refine head_eq ?_ rfl rfl
          simp [wrap_succ hc (by omega)]
        · rw [if_neg h1'] at rd
          simp only [Cell.enc, cellL] at rd
          (have fA := And.intro @rd (And.intro @n1 (And.intro @gB @lb8)); have c1 := tl; refine gox ?_; clear fA c1)
          refine head_eq ?_ rfl rfl
          simp [wrap_succ hc (by omega)]
      · (refine gox ?_)
        refine head_eq ?_ rfl rfl
        simp [wrap_succ hr (by omega)]
    · intro nz
      (refine gox ?_)
      (refine finx ?_; try with_reducible rfl)
      try rfl
theorem law (cs : List AV) (h : ShpAll L 5 Try.f6.params.toList cs) : ∃ lent, callω L T 6 0 cs (List.replicate Try.f6.params.toList.length none) = some (.bool true, lent) := by
  rw [Try.params6] at h
  obtain ⟨row, _, rfl, _, h1⟩ := shpAll_int rfl h
  obtain ⟨p1, _, rfl, _, hp1, h2⟩ := shpAll_slice rfl rfl h1
  obtain ⟨o, _, rfl, _, h3⟩ := shpAll_int rfl h2
  obtain rfl := shpAll_nil h3
  obtain ⟨xs, e1, e2, e5⟩ := ints_of_parts (n := 3) rfl p1 hp1
  rw [e1, ← e2]
  exact ⟨_, main row o xs (fun x hx => by obtain ⟨m, rfl, hm⟩ := u8_wf (e5 x hx); omega)⟩

open Go.ChangeShapes Go.WideShapes Go.ChangeAt Go.RowKit
theorem lifted (os : Os) (started : os.Started) (H : Type) (enc : TypeId × Value → H) :
    ReturnsInHanded {} Try.checked os 6 .any (Rows.renderRowsSpec.pre6 enc Try.prog Try.f6 Rows.renderRowsRow.domain false) (Rows.renderRowsSpec.post enc Try.prog Try.f6 false true false false) := by
  refine law_lift (C := Try.checked) (n := 5) own started (by kernel_rfl) Try.func6 L_ok T_ok (show T 6 = some (.code a6) from rfl) laid (by kernel_rfl) rfl Try.underlying4 rfl ?_ law
    (ChangeSpec.witness6 (enc := enc) (C := Try.checked) false ⟨#[], #[.int .i64 0, .slice none 0 0, .int .i64 0], []⟩ 8 (by kernel_rfl) (by kernel_rfl) (by kernel_rfl) (by kernel_rfl))
  intro H ds hl
  rw [Try.params6] at hl
  match ds, hl with
  | [d1, d2, d3], _ => rfl

theorem over : Rows.renderRowsRow.holds Try.pinned (OpenSpec.ofChange Rows.renderRowsSpec) :=
  OpenClaim.holds_of_wide 6 Try.f6 rfl rfl rfl rfl rfl rfl rfl ⟨rfl, rfl, rfl, rfl, rfl⟩ rfl rfl rfl rfl rfl (by kernel_rfl) Try.func6 (by kernel_rfl)
    (of_decide_eq_true (by kernel_rfl)) (by unfold Func.isWrapper; first | (rw [if_pos (by decide +kernel)]; kernel_rfl) | (rw [if_neg (by decide +kernel)]; exact ⟨rfl, rfl⟩))
    (fun os started H enc _ => lifted os started H enc)

theorem proved : Rows.RenderRowsSaid :=
  over
#print axioms proved
end Go.Proofs.Ytkienchmbfhigaa.renderRows
