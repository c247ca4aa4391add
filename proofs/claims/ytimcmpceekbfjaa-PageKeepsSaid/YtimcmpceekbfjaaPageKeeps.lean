/- PageKeeps: a byte whose parity is wrong leaves what was there; told twice, each byte right once, a row is whole; never seen it is a blank. No condition. -/
import Derived.Test.YtimcmpceekbfjaaRows
import Derived.Test.YtimcmpceekbfjaaSimT
import Derived.Test.YtimcmpceekbfjaaSimY
import Derived.Test.YtimcmpceekbfjaaPpage6
set_option maxRecDepth 100000
set_option maxHeartbeats 40000000
set_option linter.unusedSimpArgs false
set_option linter.unusedVariables false
namespace Go.Proofs.Ytimcmpceekbfjaa.pageKeeps
open Go Go.Sim
attribute [local irreducible] chk brX getX strX setX takeX normX fillX lendX partsX opsX callK lentK giveX adoptX resX joinX headX loopX seqK blkK regK finX exOps ex eqT
attribute [local simp] setR_int setR_bool setR_zero setR_succ repl_int repl_bool List.getElem?_cons_zero List.getElem?_cons_succ List.getElem?_nil w_i64 w_u64 w_u8 bAnd_u8 bOr_u8 bXor_u8 bAndNot_u8 bShl_u8 wrap_u8_range all_plain_int all_plain_bool all_plain_app pl_bool pl_int pl_str pl_nilp pl_nsl pl_nilI pl_nilF take_map_len AV.cells TI.isAgg

attribute [local simp] Tr.flen Tr.rd Tr.g0 Tr.g1 Tr.g2 Tr.put Tr.pute Tr.s0 Tr.s1 Tr.s2 Tr.zero Tr.enc Hd.flen Hd.rd Hd.g0 Hd.g1 Hd.g2 Hd.g3 Hd.g4 Hd.g5 Hd.g6 Hd.g7 Hd.g8 Hd.g9 Hd.g10 Hd.g11 Hd.g12 Hd.g13 Hd.g14 Hd.put Hd.pute Hd.s0 Hd.s1 Hd.s2 Hd.s3 Hd.s4 Hd.s5 Hd.s6 Hd.s7 Hd.s8 Hd.s9 Hd.s10 Hd.s11 Hd.s12 Hd.s13 Hd.s14 Hd.zero Hd.enc
theorem Pg.row_setRow {p : Pg} (h : p.Ok) {r : Nat} {m : List Int} (hr : r < 25) (hm : m.length = 40) : (p.setRow r m).row r = m := by
  have e := h.rows
  have l1 : (p.rows.take (r * 40)).length = r * 40 := by simp; omega
  simp only [Pg.setRow, Pg.row]
  rw [List.drop_append, List.drop_eq_nil_of_le (by omega), l1, Nat.sub_self, List.drop_zero, List.nil_append, List.take_append_of_le_length (by omega), List.take_of_length_le (by omega)]
theorem Pg.is_setThere {p : Pg} (h : p.Ok) {r : Nat} {b : Bool} (hr : r < 25) : (p.setThere r b).is r = b := by
  simp [Pg.setThere, Pg.is, List.getD_eq_getElem?_getD, h.there, hr]
def aE (xs : List Int) (bad : List Bool) (k : Nat) : Int := if bad.getD k false = true then bXor .u8 (makeOddI (xs.getD k 0)) 16 else makeOddI (xs.getD k 0)
def bE (xs : List Int) (bad : List Bool) (k : Nat) : Int := if bad.getD k false = true then makeOddI (xs.getD k 0) else bXor .u8 (makeOddI (xs.getD k 0)) 1
def wE (xs : List Int) (k : Nat) : Int := bAnd .u8 (xs.getD k 0) 127
theorem odd_made {x : Int} (h0 : 0 ≤ x) (h1 : x < 256) : oddI (makeOddI x) = true := byteB_get (p := fun x => oddI (makeOddI x)) (by decide +kernel) h0 h1
theorem odd_bad16 {x : Int} (h0 : 0 ≤ x) (h1 : x < 256) : (oddI (bXor .u8 (makeOddI x) 16)) = false := by
  simpa using byteB_get (p := fun x => !oddI (bXor .u8 (makeOddI x) 16)) (by decide +kernel) h0 h1
theorem odd_bad1 {x : Int} (h0 : 0 ≤ x) (h1 : x < 256) : (oddI (bXor .u8 (makeOddI x) 1)) = false := by
  simpa using byteB_get (p := fun x => !oddI (bXor .u8 (makeOddI x) 1)) (by decide +kernel) h0 h1
theorem made_and {x : Int} (h0 : 0 ≤ x) (h1 : x < 256) : bAnd .u8 (makeOddI x) 127 = bAnd .u8 x 127 := by
  simpa using byteB_get (p := fun x => bAnd .u8 (makeOddI x) 127 == bAnd .u8 x 127) (by decide +kernel) h0 h1
def aL (xs : List Int) (bad : List Bool) : List Int := (List.range 40).map (aE xs bad)
def bL (xs : List Int) (bad : List Bool) : List Int := (List.range 40).map (bE xs bad)
theorem rng_map {f : Nat → Int} (h : ∀ k, 0 ≤ f k ∧ f k < 256) : ∀ x ∈ (List.range 40).map f, 0 ≤ x ∧ x < 256 := by
  intro x hx
  obtain ⟨k, _, rfl⟩ := List.mem_map.1 hx
  exact h k
theorem aE_rng (xs : List Int) (bad : List Bool) (k : Nat) : 0 ≤ aE xs bad k ∧ aE xs bad k < 256 := by
  unfold aE
  split
  · exact bXor_u8 _ _
  · exact makeOddI_range _
theorem bE_rng (xs : List Int) (bad : List Bool) (k : Nat) : 0 ≤ bE xs bad k ∧ bE xs bad k < 256 := by
  unfold bE
  split
  · exact makeOddI_range _
  · exact bXor_u8 _ _
theorem rget {f : Nat → Int} {k : Nat} (h : k < 40) : ((List.range 40).map f).getD k 0 = f k := by
  simp [List.getD_eq_getElem?_getD, h]
theorem lines (xs : List Int) (bad : List Bool) (r : Nat) (hr0 : 1 ≤ r) (hr : r < 25) (hx : ∀ x ∈ xs, 0 ≤ x ∧ x < 256) :
    ∃ q1 q2 : Pg, rowF Pg.none r (aL xs bad) = q1 ∧ rowF q1 r (bL xs bad) = q2 ∧ q1.Ok ∧ q2.Ok ∧ q1.extra = [] ∧ q2.extra = [] ∧ q2.is r = true ∧ (lineF q1 r).length = 40 ∧ (lineF q2 r).length = 40 ∧
    (∀ k, k < 40 → (lineF q1 r).getD k 0 = if bad.getD k false = true then 32 else wE xs k) ∧ (∀ k, k < 40 → (lineF q2 r).getD k 0 = wE xs k) := by
  have on := Pg.none_ok
  have l1 := mrg_len (Pg.none.row r) (aL xs bad) (Pg.none.is r)
  have r1 : rowF Pg.none r (aL xs bad) = (Pg.none.setRow r (mrg (Pg.none.row r) (aL xs bad) (Pg.none.is r))).setThere r true := by
    unfold rowF; rw [if_neg (by omega)]; simp only [Int.toNat_natCast]
  have o1 : ((Pg.none.setRow r (mrg (Pg.none.row r) (aL xs bad) (Pg.none.is r))).setThere r true).Ok := Pg.setThere_ok (Pg.setRow_ok on hr l1)
  have i0 : Pg.none.is r = false := by
    rw [Pg.is, show Pg.none.there = List.replicate 25 false from rfl, List.getD_eq_getElem?_getD, List.getElem?_replicate_of_lt hr]; rfl
  have w1 : ((Pg.none.setRow r (mrg (Pg.none.row r) (aL xs bad) (Pg.none.is r))).setThere r true).row r = mrg (Pg.none.row r) (aL xs bad) (Pg.none.is r) := Pg.row_setRow on hr l1
  have i1 : ((Pg.none.setRow r (mrg (Pg.none.row r) (aL xs bad) (Pg.none.is r))).setThere r true).is r = true := Pg.is_setThere (Pg.setRow_ok on hr l1) hr
  have x1 : ((Pg.none.setRow r (mrg (Pg.none.row r) (aL xs bad) (Pg.none.is r))).setThere r true).extra = [] := rfl
  rw [r1]
  generalize ((Pg.none.setRow r (mrg (Pg.none.row r) (aL xs bad) (Pg.none.is r))).setThere r true) = q1 at *
  rw [i0] at w1
  have l2 := mrg_len (q1.row r) (bL xs bad) (q1.is r)
  have r2 : rowF q1 r (bL xs bad) = (q1.setRow r (mrg (q1.row r) (bL xs bad) (q1.is r))).setThere r true := by
    unfold rowF; rw [if_neg (by omega)]; simp only [Int.toNat_natCast]
  have o2 : ((q1.setRow r (mrg (q1.row r) (bL xs bad) (q1.is r))).setThere r true).Ok := Pg.setThere_ok (Pg.setRow_ok o1 hr l2)
  have w2 : ((q1.setRow r (mrg (q1.row r) (bL xs bad) (q1.is r))).setThere r true).row r = mrg (q1.row r) (bL xs bad) (q1.is r) := Pg.row_setRow o1 hr l2
  have i2 : ((q1.setRow r (mrg (q1.row r) (bL xs bad) (q1.is r))).setThere r true).is r = true := Pg.is_setThere (Pg.setRow_ok o1 hr l2) hr
  have x2 : ((q1.setRow r (mrg (q1.row r) (bL xs bad) (q1.is r))).setThere r true).extra = [] := x1
  have lf : ∀ q : Pg, q.is r = true → lineF q r = q.row r := by
    intro q hq
    unfold lineF
    rw [if_neg (by omega)]
    simp only [Int.toNat_natCast]
    rw [if_pos hq]
  have v1 : ∀ k, k < 40 → (lineF q1 r).getD k 0 = if bad.getD k false = true then 32 else wE xs k := by
    intro k hk
    have hr := u8_getD hx k
    rw [lf q1 i1, w1, mrg, rget hk, mrgE, aL, rget hk, aE]
    cases bad.getD k false
    · simp only [Bool.false_eq_true, if_false]
      rw [if_pos (odd_made hr.1 hr.2), made_and hr.1 hr.2]; rfl
    · simp only [if_true]
      rw [odd_bad16 hr.1 hr.2]; simp
  have v2 : ∀ k, k < 40 → (lineF ((q1.setRow r (mrg (q1.row r) (bL xs bad) (q1.is r))).setThere r true) r).getD k 0 = wE xs k := by
    intro k hk
    have hr := u8_getD hx k
    have e1 := v1 k hk
    rw [lf q1 i1] at e1
    rw [lf _ i2, w2, mrg, rget hk, mrgE, bL, rget hk, bE]
    cases hb : bad.getD k false
    · simp only [Bool.false_eq_true, if_false]
      rw [odd_bad1 hr.1 hr.2, i1, e1, hb]; simp
    · simp only [if_true]
      rw [if_pos (odd_made hr.1 hr.2), made_and hr.1 hr.2]; rfl
  exact ⟨q1, _, rfl, rfl, o1, by rw [r2]; exact o2, x1, by rw [r2]; exact x2, by rw [r2]; exact i2, lineF_len o1 _, by rw [r2]; exact lineF_len o2 _, v1, by rw [r2]; exact v2⟩
theorem cellset (f : Nat → Int) (k : Nat) (hk : k < 40) : ∃ cs : Int → List AV, (∀ v, setR ((fillup f 0 40 k).map (.int .u8)) k [.int .u8 v] = cs v) ∧ (∀ v, (cs v)[k]? = some (.int .u8 v)) ∧ (∀ v w, setR (cs v) k [.int .u8 w] = cs w) ∧
    cs (f k) = (fillup f 0 40 (k + 1)).map (.int .u8) ∧ (∀ v, (cs v).length = 40) ∧ ((fillup f 0 40 k).map (AV.int .u8)).length = 40 := by
  have l : (fillup f 0 40 k).length = 40 := by simp [fillup]
  refine ⟨fun v => ((fillup f 0 40 k).set k v).map (.int .u8), fun v => setR_int (by omega), fun v => ?_, fun v w => ?_, ?_, fun v => by simp [l], by simp [l]⟩
  · rw [List.getElem?_map, List.getElem?_set_self (by omega)]; rfl
  · rw [setR_int (by simp [l]; omega), List.set_set]
  · simp only [fillup_set]
theorem main (xs : List Int) (bad : List Bool) (row : Int) (hx : xs.length = 40) (hb : bad.length = 40) (hr : ∀ x ∈ xs, 0 ≤ x ∧ x < 256) : callω L T 5 0 [.agg (xs.map (.int .u8)), .agg (bad.map .bool), .int .i64 row] [none, none, none] = some (.bool true, [none, none, none]) := by
  rw [call_ex (show T 5 = some (.code a5) from rfl) rfl rfl]
  have tn := t_Number (0 + 1) row 24 (by omega) (by omega)
  (have c1 := fun x1 => t_law12_first x1; have c2 := tn; refine gox ?_; clear c1 c2)
  obtain ⟨r, hrr, hr1, hr2⟩ : ∃ r : Nat, IntKind.i64.wrap (row % 24 + 1) = (r : Int) ∧ 1 ≤ r ∧ r < 25 := by
    rw [w_i64 (by omega) (by omega)]
    exact ⟨(row % 24 + 1).toNat, by omega, by omega, by omega⟩
  have z0 : ∀ f : Nat → Int, (List.replicate (Int.toNat 40) 0).map (AV.int .u8) = (fillup f 0 40 0).map (.int .u8) := fun f => by rw [fillup_zero]; rfl
  refine Eq.trans (head_eq (env' := [(2, .int .i64 r), (3, .ref 3 (0, 1) 0), (4, .ref 4 (0, 1 + 1) 0), (7, .bool true), (8, .msl 23 (0, 1 + 1 + 1) 1 0 40), (9, .msl 24 (0, 1 + 1 + 1 + 1) 1 0 40), (10, .int .i64 ((0 : Nat) : Int))]) (heap' := [(3, ⟨(0, 1), xs.map (.int .u8)⟩), (4, ⟨(0, 1 + 1), bad.map .bool⟩), (23, ⟨(0, 1 + 1 + 1), (fillup (aE xs bad) 0 40 0).map (.int .u8)⟩), (24, ⟨(0, 1 + 1 + 1 + 1), (fillup (bE xs bad) 0 40 0).map (.int .u8)⟩)]) (by rw [hrr]; rfl) (by rw [← z0, ← z0]) rfl) ?_
  have lx : (xs.map (AV.int .u8)).length = 40 := by simp [hx]
  have lb : (bad.map AV.bool).length = 40 := by simp [hb]
  have gx : ∀ k, k < 40 → (xs.map (AV.int .u8))[k]? = some (.int .u8 (xs.getD k 0)) := fun k hk => geti (by omega) 0
  have gb : ∀ k, k < 40 → (bad.map AV.bool)[k]? = some (.bool (bad.getD k false)) := fun k hk => by
    rw [List.getElem?_map, List.getElem?_eq_getElem (by omega), List.getD_eq_getElem?_getD, List.getElem?_eq_getElem (by omega)]; rfl
  refine headX_up (fun k => ⟨[(2, .int .i64 r), (3, .ref 3 (0, 1) 0), (4, .ref 4 (0, 1 + 1) 0), (7, .bool true), (8, .msl 23 (0, 1 + 1 + 1) 1 0 40), (9, .msl 24 (0, 1 + 1 + 1 + 1) 1 0 40), (10, .int .i64 k)], [(3, ⟨(0, 1), xs.map (.int .u8)⟩), (4, ⟨(0, 1 + 1), bad.map .bool⟩), (23, ⟨(0, 1 + 1 + 1), (fillup (aE xs bad) 0 40 k).map (.int .u8)⟩), (24, ⟨(0, 1 + 1 + 1 + 1), (fillup (bE xs bad) 0 40 k).map (.int .u8)⟩)], 1 + 1 + 1 + 1 + 1, 0⟩) 40 _ ?_ ?_ 0 (by omega)
  · intro k hk
    have gx := gx k hk
    have gb := gb k hk
    have tm := t_ref1_MakeOdd (0 + 1) (xs.getD k 0)
    obtain ⟨ca, a1, a2, a3, a4, a5, a6⟩ := cellset (aE xs bad) k hk
    obtain ⟨cb, b1, b2, b3, b4, b5, b6⟩ := cellset (bE xs bad) k hk
    rw [aE] at a4
    rw [bE] at b4
    generalize (fillup (aE xs bad) 0 40 (k + 1)).map (AV.int .u8) = a' at *
    generalize (fillup (aE xs bad) 0 40 k).map (AV.int .u8) = a0 at *
    generalize (fillup (bE xs bad) 0 40 (k + 1)).map (AV.int .u8) = b' at *
    generalize (fillup (bE xs bad) 0 40 k).map (AV.int .u8) = b0 at *
    generalize makeOddI (xs.getD k 0) = mo at *
    generalize xs.getD k 0 = xk at *
    generalize xs.map (AV.int .u8) = cx at *
    generalize bad.map AV.bool = cbd at *
    cases hbk : bad.getD k false
    · rw [hbk] at gb
      rw [hbk, if_neg (by decide)] at a4 b4
      (have fA := And.intro @gx (And.intro @gb (And.intro @lx (And.intro @lb (And.intro @a1 (And.intro @a2 (And.intro @a3 (And.intro @a5 (And.intro @a6 (And.intro @b1 (And.intro @b2 (And.intro @b3 (And.intro @b5 @b6)))))))))))); have c1 := tm; refine gox ?_; clear fA c1)
      refine head_eq ?_ ?_ rfl
      · simp [wrap_succ hk (by omega)]
      · rw [← a4, ← b4]
    · rw [hbk] at gb
      rw [hbk, if_pos rfl] at a4 b4
      (have fA := And.intro @gx (And.intro @gb (And.intro @lx (And.intro @lb (And.intro @a1 (And.intro @a2 (And.intro @a3 (And.intro @a5 (And.intro @a6 (And.intro @b1 (And.intro @b2 (And.intro @b3 (And.intro @b5 @b6)))))))))))); have c1 := tm; refine gox ?_; clear fA c1)
      refine head_eq ?_ ?_ rfl
      · simp [wrap_succ hk (by omega)]
      · rw [← a4, ← b4]
  · obtain ⟨q1, q2, e1, e2, o1, o2, x1, x2, i2, l1, l2, v1, v2⟩ := lines xs bad r hr1 hr2 hr
    rw [show fillup (aE xs bad) 0 40 40 = aL xs bad from fillup_full _ _ _, show fillup (bE xs bad) 0 40 40 = bL xs bad from fillup_full _ _ _]
    have lA : (aL xs bad).length = 40 := by simp [aL]
    have lB : (bL xs bad).length = 40 := by simp [bL]
    have t1 := t_page_Row (0 + 1) Pg.none Pg.none_ok (x := .nsl) (Or.inr ⟨rfl, rfl⟩) (by decide) r (aL xs bad) (by omega) (rng_map (aE_rng xs bad))
    have t2 := t_page_Row (0 + 1) q1 o1 (x := .isl 3 q1.extra.length (flat Tr.enc q1.extra)) (Or.inl rfl) (by rw [x1]; decide) r (bL xs bad) (by omega) (rng_map (bE_rng xs bad))
    have t3 := t_Line (0 + 1) q1 o1 (x := .isl 3 q1.extra.length (flat Tr.enc q1.extra)) (Or.inl rfl) r
    have t4 := t_Line (0 + 1) q2 o2 (x := .isl 3 q2.extra.length (flat Tr.enc q2.extra)) (Or.inl rfl) r
    rw [e1, lA] at t1
    rw [e2, lB] at t2
    rw [x1] at t2 t3
    rw [show Pg.none.extra = [] from rfl] at t1
    rw [x2] at t4
    clear e1 e2
    have oz := Pg.none_ok
    have cA : ((aL xs bad).map (AV.int .u8)).length = 40 := by simp [lA]
    have cB : ((bL xs bad).map (AV.int .u8)).length = 40 := by simp [lB]
    have kA : ((aL xs bad).map (AV.int .u8)).take 40 = (aL xs bad).map (.int .u8) := List.take_of_length_le (by omega)
    have kB : ((bL xs bad).map (AV.int .u8)).take 40 = (bL xs bad).map (.int .u8) := List.take_of_length_le (by omega)
    generalize (aL xs bad).map (AV.int .u8) = ca at *
    generalize (bL xs bad).map (AV.int .u8) = cb at *
    have ha := Pg.there_at (x := .isl 3 0 []) o2 hr2
    rw [i2] at ha
    have g1 : ∀ k, k < 40 → ((lineF q1 r).map (AV.int .u8))[k]? = some (.int .u8 (if bad.getD k false = true then 32 else wE xs k)) := fun k hk => by rw [← v1 k hk]; exact geti (by omega) 0
    have g2 : ∀ k, k < 40 → ((lineF q2 r).map (AV.int .u8))[k]? = some (.int .u8 (wE xs k)) := fun k hk => by rw [← v2 k hk]; exact geti (by omega) 0
    generalize (lineF q1 r).map (AV.int .u8) = L1 at *
    generalize (lineF q2 r).map (AV.int .u8) = L2 at *
    (have fA := And.intro @pgs (And.intro @cA (And.intro @cB (And.intro @kA (And.intro @kB (And.intro @ha (And.intro @Pg.zero_eq (@List.drop_zero AV))))))); have c1 := t1; have c2 := t2; have c3 := t3; have c4 := t4; refine gox ?_; clear fA c1 c2 c3 c4)
    refine headX_up (fun k => ⟨[(3, .ref 3 (0, 1) 0), (4, .ref 4 (0, 1 + 1) 0), (7, .bool true), (12, .fsl 1 40 L1), (13, .fsl 1 40 L2), (14, .int .i64 k)], [(3, ⟨(0, 1), xs.map (.int .u8)⟩), (4, ⟨(0, 1 + 1), bad.map .bool⟩)], 1 + 1 + 1 + 1 + 1 + 1, 0⟩) 40 _ ?_ ?_ 0 (by omega)
    · intro k hk
      have gx := gx k hk
      have gb := gb k hk
      have g1 := g1 k hk
      have g2 := g2 k hk
      have hwe : bAnd .u8 (xs.getD k 0) 127 = wE xs k := rfl
      generalize wE xs k = w at *
      generalize xs.getD k 0 = xk at *
      generalize xs.map (AV.int .u8) = cx at *
      generalize bad.map AV.bool = cbd at *
      cases hbk : bad.getD k false
      · rw [hbk] at gb
        rw [hbk, if_neg (by decide)] at g1
        (have fA := And.intro @gx (And.intro @gb (And.intro @g1 (And.intro @g2 (And.intro @lx (And.intro @lb @hwe))))); refine gox ?_; clear fA)
        refine head_eq ?_ rfl rfl
        simp [wrap_succ hk (by omega)]
      · rw [hbk] at gb
        rw [hbk, if_pos rfl] at g1
        (have fA := And.intro @gx (And.intro @gb (And.intro @g1 (And.intro @g2 (And.intro @lx (And.intro @lb @hwe))))); refine gox ?_; clear fA)
        refine head_eq ?_ rfl rfl
        simp [wrap_succ hk (by omega)]
    · (refine gox ?_)
      (refine finx ?_; try with_reducible rfl)
      try rfl
theorem law (cs : List AV) (h : ShpAll L 5 Try.f5.params.toList cs) : ∃ lent, callω L T 5 0 cs (List.replicate Try.f5.params.toList.length none) = some (.bool true, lent) := by
  rw [Try.params5] at h
  obtain ⟨p1, _, rfl, hl1, hp1, ha⟩ := shpAll_arr rfl h
  obtain ⟨p2, _, rfl, hl2, hp2, hb⟩ := shpAll_arr rfl ha
  obtain ⟨r, _, rfl, _, hc⟩ := shpAll_int rfl hb
  obtain rfl := shpAll_nil hc
  obtain ⟨xs, e1, e2, e5⟩ := ints_of_parts (n := 3) rfl p1 hp1
  obtain ⟨ys, e3, e4⟩ := bools_of_parts (n := 3) rfl p2 hp2
  rw [e1, e3]
  exact ⟨_, main xs ys r (by omega) (by omega) (fun x hx => by obtain ⟨m, rfl, hm⟩ := u8_wf (e5 x hx); omega)⟩

open Go.ChangeShapes Go.WideShapes Go.ChangeAt Go.RowKit
theorem lifted (os : Os) (started : os.Started) (H : Type) (enc : TypeId × Value → H) :
    ReturnsInHanded {} Try.checked os 5 .any (Rows.pageKeepsSpec.pre6 enc Try.prog Try.f5 Rows.pageKeepsRow.domain false) (Rows.pageKeepsSpec.post enc Try.prog Try.f5 false true false false) := by
  refine law_lift (C := Try.checked) (n := 5) own started (by kernel_rfl) Try.func5 L_ok T_ok (show T 5 = some (.code a5) from rfl) laid (by kernel_rfl) rfl Try.underlying4 rfl ?_ law
    (ChangeSpec.witness6 (enc := enc) (C := Try.checked) false ⟨#[], #[.agg (List.replicate 40 (Value.int .u8 0)).toArray, .agg (List.replicate 40 (Value.bool false)).toArray, .int .i64 0], []⟩ 8 (by kernel_rfl) (by kernel_rfl) (by kernel_rfl) (by kernel_rfl))
  intro H ds hl
  rw [Try.params5] at hl
  match ds, hl with
  | [d1, d2, d3], _ => rfl

theorem over : Rows.pageKeepsRow.holds Try.pinned (OpenSpec.ofChange Rows.pageKeepsSpec) :=
  OpenClaim.holds_of_wide 5 Try.f5 rfl rfl rfl rfl rfl rfl rfl ⟨rfl, rfl, rfl, rfl, rfl⟩ rfl rfl rfl rfl rfl (by kernel_rfl) Try.func5 (by kernel_rfl)
    (of_decide_eq_true (by kernel_rfl)) (by unfold Func.isWrapper; first | (rw [if_pos (by decide +kernel)]; kernel_rfl) | (rw [if_neg (by decide +kernel)]; exact ⟨rfl, rfl⟩))
    (fun os started H enc _ => lifted os started H enc)

theorem proved : Rows.PageKeepsSaid :=
  over
#print axioms proved
end Go.Proofs.Ytimcmpceekbfjaa.pageKeeps
