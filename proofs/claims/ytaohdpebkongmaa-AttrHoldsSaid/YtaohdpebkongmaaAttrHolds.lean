/- AttrHolds: held mosaics stand where codes would be blanks, as the last one was, till another kind of letter comes, without hold all codes are blanks. No condition. -/
import Derived.Test.YtaohdpebkongmaaRows
import Derived.Test.YtaohdpebkongmaaSimT
import Derived.Test.YtaohdpebkongmaaSimY
import Derived.Test.YtaohdpebkongmaaPattr9
import Derived.Test.YtaohdpebkongmaaPnum
set_option maxRecDepth 100000
set_option maxHeartbeats 40000000
set_option linter.unusedSimpArgs false
set_option linter.unusedVariables false
namespace Go.Proofs.Ytaohdpebkongmaa.attrHolds
open Go Go.Sim
attribute [local irreducible] chk brX getX strX setX takeX normX fillX lendX partsX opsX callK lentK giveX adoptX resX joinX headX loopX seqK blkK regK finX exOps ex
attribute [local simp] setR_int setR_bool setR_zero setR_succ repl_int repl_bool List.getElem?_cons_zero List.getElem?_cons_succ List.getElem?_nil w_i64 w_u64 w_u8 bAnd_u8 bOr_u8 bXor_u8 bAndNot_u8 bShl_u8 wrap_u8_range all_plain_int all_plain_bool all_plain_app pl_bool pl_int pl_str pl_nilp pl_nsl pl_nilI pl_nilF take_map_len AV.cells TI.isAgg

attribute [local simp] Cell.flen Cell.rd Cell.g0 Cell.g1 Cell.g2 Cell.g3 Cell.g4 Cell.g5 Cell.g6 Cell.g7 Cell.g8 Cell.g9 Cell.put Cell.pute Cell.s0 Cell.s1 Cell.s2 Cell.s3 Cell.s4 Cell.s5 Cell.s6 Cell.s7 Cell.s8 Cell.s9 Cell.zero Cell.enc At.flen At.rd At.g0 At.g1 At.g2 At.g3 At.g4 At.g5 At.g6 At.g7 At.g8 At.g9 At.g10 At.put At.pute At.s0 At.s1 At.s2 At.s3 At.s4 At.s5 At.s6 At.s7 At.s8 At.s9 At.s10 At.zero At.enc
theorem range_getD (bs : List Int) : (List.range' 0 bs.length).map (fun k => bs.getD k 32) = bs := by
  apply List.ext_getElem
  · simp
  · intro i h1 h2
    simp [List.getElem_range', List.getElem?_eq_getElem h2]
theorem walk_get (bs : List Int) (o : Int) {i : Nat} (h : i < bs.length) : (walkF o At.start bs).getD i Cell.none = ceF bs o i := by
  have := walk_st bs o bs.length 0
  rw [range_getD] at this
  show (walkF o (stF bs o 0) bs).getD i Cell.none = _
  rw [this, List.getD_eq_getElem?_getD, List.getElem?_map, List.getElem?_range' (by omega)]
  simp
theorem tall_no (bs : List Int) (o : Int) (h : bs.all (fun x => decide (bAnd .u8 x 127 ≠ 13)) = true) (k : Nat) : tallF bs o k = false := by
  apply tall_none
  intro j
  by_cases hj : j < bs.length
  · rw [getD_lt hj]
    exact of_decide_eq_true (List.all_eq_true.1 h _ (List.getElem_mem hj))
  · rw [List.getD_eq_getElem?_getD, List.getElem?_eq_none (by omega)]
    decide
def moB (n : Nat) : Int := ((n % 32 + 32 + n / 32 * 64 : Nat) : Int)
theorem moB_eq : ∀ n, n < 64 → IntKind.u8.wrap (bOr .i64 (bOr .i64 (bAnd .i64 ((n : Nat) : Int) 31) 32) (bShl .i64 (bShr .i64 (n : Int) 5) 6)) = moB n := by decide +kernel
def hoL (n c : Nat) (pa ho : Bool) : List Int := 17 :: ((if pa then [26] else []) ++ ((if ho then [30] else []) ++ [moB n, 16 + c, 25, 8, c, 9]))
def hoAt (pa ho : Bool) : Nat := 1 + (if pa then 1 else 0) + (if ho then 1 else 0)
def hoG (n : Nat) (pa : Bool) : Int := 1048576 + n + if pa then 64 else 0
def hoChk (n c : Nat) (pa ho : Bool) : Bool :=
  let w := walkF 0 At.start (hoL n c pa ho)
  let a := hoAt pa ho
  let h : Int := if ho then hoG n pa else 32
  let x := fun i => w.getD i Cell.none
  (hoL n c pa ho).all (fun x => decide (bAnd .u8 x 127 ≠ 13)) && (decide ((x a).glyph = hoG n pa) && (decide ((x (a + 1)).glyph = h) && (decide ((x (a + 2)).glyph = h) && (decide ((x (a + 3)).glyph = h) && (decide ((x (a + 4)).glyph = h)
    && (decide ((x (a + 5)).glyph = 32) && (decide ((x (a + 5)).fg = c) && (decide ((x (a + 1)).fg = 1) && ((!(x (a + 5)).flash) && (x (a + 4)).flash)))))))))
theorem ho1 : ∀ n, n < 64 → ∀ c, c < 8 → hoChk n c false false = true := by decide +kernel
theorem ho2 : ∀ n, n < 64 → ∀ c, c < 8 → hoChk n c false true = true := by decide +kernel
theorem ho3 : ∀ n, n < 64 → ∀ c, c < 8 → hoChk n c true false = true := by decide +kernel
theorem ho4 : ∀ n, n < 64 → ∀ c, c < 8 → hoChk n c true true = true := by decide +kernel
theorem ho_facts {n c : Nat} (hn : n < 64) (hc : c < 8) (pa ho : Bool) : ∀ bs, bs = hoL n c pa ho → ∀ a, a = hoAt pa ho →
    tallF bs 0 40 = false ∧ (ceF bs 0 a).glyph = hoG n pa ∧ (ceF bs 0 (a + 1)).glyph = (if ho then hoG n pa else 32) ∧ (ceF bs 0 (a + 2)).glyph = (if ho then hoG n pa else 32) ∧ (ceF bs 0 (a + 3)).glyph = (if ho then hoG n pa else 32) ∧ (ceF bs 0 (a + 4)).glyph = (if ho then hoG n pa else 32) ∧
    (ceF bs 0 (a + 5)).glyph = 32 ∧ (ceF bs 0 (a + 5)).fg = c ∧ (ceF bs 0 (a + 1)).fg = 1 ∧ (ceF bs 0 (a + 5)).flash = false ∧ (ceF bs 0 (a + 4)).flash = true := by
  have h : hoChk n c pa ho = true := by
    cases pa <;> cases ho
    · exact ho1 n hn c hc
    · exact ho2 n hn c hc
    · exact ho3 n hn c hc
    · exact ho4 n hn c hc
  rintro bs rfl a rfl
  have hl : (hoL n c pa ho).length = hoAt pa ho + 6 := by cases pa <;> cases ho <;> rfl
  simp only [hoChk, Bool.and_eq_true, decide_eq_true_eq, Bool.not_eq_true'] at h
  obtain ⟨h0, h1, h2, h3, h4, h5, h6, h7, h8, h9, h10⟩ := h
  refine ⟨tall_no _ _ h0 40, ?_, ?_, ?_, ?_, ?_, ?_, ?_, ?_, ?_, ?_⟩ <;> rw [← walk_get _ _ (by omega)] <;> assumption
theorem main (n0 : Int) (pa : Bool) (c0 : Int) (ho : Bool) : callω L T 6 0 [.int .i64 n0, .bool pa, .int .i64 c0, .bool ho] [none, none, none, none] = some (.bool true, [none, none, none, none]) := by
  rw [call_ex (show T 6 = some (.code a6) from rfl) rfl rfl]
  have tn := t_Number (0 + 1) n0 64 (by omega) (by omega)
  have tc := t_Number (0 + 1) c0 8 (by omega) (by omega)
  obtain ⟨n, hn, hn'⟩ : ∃ n : Nat, n0 % 64 = n ∧ n < 64 := ⟨(n0 % 64).toNat, by omega, by omega⟩
  obtain ⟨c, hc, hc'⟩ : ∃ n : Nat, c0 % 8 = n ∧ n < 8 := ⟨(c0 % 8).toNat, by omega, by omega⟩
  rw [hn] at tn
  rw [hc] at tc
  have em := moB_eq n hn'
  have ew : IntKind.u8.wrap (IntKind.i64.wrap (16 + (c : Int))) = 16 + (c : Int) := by rw [w_i64 (by omega) (by omega), w_u8 (by omega) (by omega)]
  have ec : IntKind.u8.wrap (c : Int) = c := w_u8 (by omega) (by omega)
  have wg : IntKind.i64.wrap (1048576 + (n : Int)) = 1048576 + (n : Int) := w_i64 (by omega) (by omega)
  have wg2 : IntKind.i64.wrap (1048576 + (n : Int) + 64) = 1048576 + (n : Int) + 64 := w_i64 (by omega) (by omega)
  have wn : IntKind.i64.wrap (IntKind.i64.wrap (1048576 + (n : Int)) + 64) = 1048576 + (n : Int) + 64 := by rw [wg]; exact wg2
  have key := ho_facts hn' hc' pa ho _ rfl _ rfl
  cases pa
  all_goals cases ho
  · have tr := t_Row (0 + 1) (hoL n c false false) 0 (by simp [hoL])
    have eg : hoG n false = 1048576 + (n : Int) := by simp [hoG]
    obtain ⟨k0, k1, k2, k3, k4, k5, k6, k7, k8, k9, k10⟩ := key
    rw [k0] at tr
    have sp := row_put (hoL n c false false) 0
    have sl := row_len (hoL n c false false) 0
    have q1 := row_g0 (hoL n c false false) 0 (i := 1) (by omega)
    rw [show (ceF (hoL n c false false) 0 1).glyph = 1048576 + (n : Int) from k1.trans eg] at q1
    have q2 := row_g0 (hoL n c false false) 0 (i := 2) (by omega)
    rw [show (ceF (hoL n c false false) 0 2).glyph = 32 from k2] at q2
    have q3 := row_g0 (hoL n c false false) 0 (i := 3) (by omega)
    rw [show (ceF (hoL n c false false) 0 3).glyph = 32 from k3] at q3
    have q4 := row_g0 (hoL n c false false) 0 (i := 4) (by omega)
    rw [show (ceF (hoL n c false false) 0 4).glyph = 32 from k4] at q4
    have q5 := row_g0 (hoL n c false false) 0 (i := 5) (by omega)
    rw [show (ceF (hoL n c false false) 0 5).glyph = 32 from k5] at q5
    have q6 := row_g0 (hoL n c false false) 0 (i := 6) (by omega)
    rw [show (ceF (hoL n c false false) 0 6).glyph = 32 from k6] at q6
    have q7 := row_g1 (hoL n c false false) 0 (i := 6) (by omega)
    rw [show (ceF (hoL n c false false) 0 6).fg = (c : Int) from k7] at q7
    have q8 := row_g1 (hoL n c false false) 0 (i := 2) (by omega)
    rw [show (ceF (hoL n c false false) 0 2).fg = 1 from k8] at q8
    have q9 := row_g3 (hoL n c false false) 0 (i := 6) (by omega)
    rw [show (ceF (hoL n c false false) 0 6).flash = false from k9] at q9
    have q10 := row_g3 (hoL n c false false) 0 (i := 5) (by omega)
    rw [show (ceF (hoL n c false false) 0 5).flash = true from k10] at q10
    clear k0 k1 k2 k3 k4 k5 k6 k7 k8 k9 k10
    generalize flat Cell.enc (rowL (hoL n c false false) 0 40) = cs at tr sp sl q1 q2 q3 q4 q5 q6 q7 q8 q9 q10
    replace q1 : cs[10]? = some (.int .i64 (1048576 + (n : Int))) := q1
    replace q2 : cs[20]? = some (.int .i64 (32)) := q2
    replace q3 : cs[30]? = some (.int .i64 (32)) := q3
    replace q4 : cs[40]? = some (.int .i64 (32)) := q4
    replace q5 : cs[50]? = some (.int .i64 (32)) := q5
    replace q6 : cs[60]? = some (.int .i64 (32)) := q6
    replace q7 : cs[61]? = some (.int .i64 ((c : Int))) := q7
    replace q8 : cs[21]? = some (.int .i64 (1)) := q8
    replace q9 : cs[63]? = some (.bool (false)) := q9
    replace q10 : cs[53]? = some (.bool (true)) := q10
    have v1 : IntKind.i64.wrap (((1 : Nat) : Int) + 1) = 2 := by decide
    have v2 : IntKind.i64.wrap (((1 : Nat) : Int) + 2) = 3 := by decide
    have v3 : IntKind.i64.wrap (((1 : Nat) : Int) + 3) = 4 := by decide
    have v4 : IntKind.i64.wrap (((1 : Nat) : Int) + 4) = 5 := by decide
    have v5 : IntKind.i64.wrap (((1 : Nat) : Int) + 5) = 6 := by decide
    (repeat (first | ((first | apply Eq.trans (opsI_cons ?hn ?h ?hp) | apply Eq.trans (opsI_cons0 ?hn ?h)); (case hn => apply Eq.refl); (case h => (intro κ'; (first | ((first | refine Eq.trans (opi_call (by apply Eq.refl) (by apply Eq.refl) (by apply Eq.refl)) ?_ | refine Eq.trans (opi_build_s (by apply Eq.refl) (by apply Eq.refl)) ?_ | refine Eq.trans (opi_build_a (by apply Eq.refl) (by apply Eq.refl) (by apply Eq.refl)) ?_ | refine Eq.trans (opi_buildSlice (by apply Eq.refl) (by apply Eq.refl) (by apply Eq.refl) (by decide)) ?_ | refine Eq.trans (opi_builtin (by apply Eq.refl) (by apply Eq.refl) (by apply Eq.refl)) ?_ | refine Eq.trans (opi_alloc (by apply Eq.refl) (by (first | (simp (disch := first | omega | assumption) only [nfs, Nat.reduceAdd, Nat.reduceMul, zr1, zr6, em, ew, ec, sp, q1, q2, q3, q4, q5, q6, q7, q8, q9, q10, wg, wg2, v1, v2, v3, v4, v5]; apply Eq.refl) | apply Eq.refl))) ?_); repeat (first | refine Eq.trans (opsl_cons (by intro κ'; apply Eq.refl)) ?_ | refine Eq.trans opsl_nil ?_ | refine Eq.trans (parts_cons (by intro κ'; apply Eq.refl)) ?_ | refine Eq.trans parts_nil ?_ | refine Eq.trans (fill_one (by apply Eq.refl) (by apply Eq.refl) (by intro κ'; apply Eq.refl) (by (first | apply Eq.refl | (simp [zr1, zr6, em, ew, ec, sp, q1, q2, q3, q4, q5, q6, q7, q8, q9, q10, wg, wg2, v1, v2, v3, v4, v5] <;> omega))) (by (first | (simp (disch := first | omega | assumption) only [nfs, Nat.reduceAdd, Nat.reduceMul, zr1, zr6, em, ew, ec, sp, q1, q2, q3, q4, q5, q6, q7, q8, q9, q10, wg, wg2, v1, v2, v3, v4, v5]; apply Eq.refl) | apply Eq.refl))) ?_ | refine Eq.trans fill_nil ?_ | refine Eq.trans (lend_easy (by apply Eq.refl)) ?_ | refine Eq.trans (lend_ref (by apply Eq.refl) (by apply Eq.refl) (by (first | apply Eq.refl | decide | omega | assumption | (simp [zr1, zr6, em, ew, ec, sp, q1, q2, q3, q4, q5, q6, q7, q8, q9, q10, wg, wg2, v1, v2, v3, v4, v5] <;> omega))) (by (first | (simp (disch := first | omega | assumption) only [nfs, Nat.reduceAdd, Nat.reduceMul, zr1, zr6, em, ew, ec, sp, q1, q2, q3, q4, q5, q6, q7, q8, q9, q10, wg, wg2, v1, v2, v3, v4, v5]; apply Eq.refl) | apply Eq.refl))) ?_ | refine Eq.trans (lend_msl (by apply Eq.refl) (by (first | apply Eq.refl | decide | omega | assumption | (simp [zr1, zr6, em, ew, ec, sp, q1, q2, q3, q4, q5, q6, q7, q8, q9, q10, wg, wg2, v1, v2, v3, v4, v5] <;> omega))) (by (first | (simp (disch := first | omega | assumption) only [nfs, Nat.reduceAdd, Nat.reduceMul, zr1, zr6, em, ew, ec, sp, q1, q2, q3, q4, q5, q6, q7, q8, q9, q10, wg, wg2, v1, v2, v3, v4, v5]; apply Eq.refl) | apply Eq.refl))) ?_ | refine Eq.trans lend_nil ?_ | refine Eq.trans (norm_eq (by (first | (simp (disch := first | omega | assumption) only [nfs, Nat.reduceAdd, Nat.reduceMul, zr1, zr6, em, ew, ec, sp, q1, q2, q3, q4, q5, q6, q7, q8, q9, q10, wg, wg2, v1, v2, v3, v4, v5]; apply Eq.refl) | apply Eq.refl))) ?_ | refine Eq.trans (call_k (by apply Eq.refl)) ?_ | refine Eq.trans give_none ?_ | refine Eq.trans (give_some (by apply Eq.refl) (by (first | apply Eq.refl | decide | omega | assumption | (simp [zr1, zr6, em, ew, ec, sp, q1, q2, q3, q4, q5, q6, q7, q8, q9, q10, wg, wg2, v1, v2, v3, v4, v5] <;> omega))) (by (first | (simp (disch := first | omega | assumption) only [nfs, Nat.reduceAdd, Nat.reduceMul, zr1, zr6, em, ew, ec, sp, q1, q2, q3, q4, q5, q6, q7, q8, q9, q10, wg, wg2, v1, v2, v3, v4, v5]; apply Eq.refl) | apply Eq.refl)) (by intro κ'; apply Eq.refl)) ?_ | refine Eq.trans give_nil ?_ | refine Eq.trans adopt_no ?_ | refine Eq.trans adopt_fsl ?_ | refine Eq.trans (lent_k (by apply Eq.refl) (t_law15_first _)) ?_ | refine Eq.trans (lent_k (by apply Eq.refl) (tn)) ?_ | refine Eq.trans (lent_k (by apply Eq.refl) (tc)) ?_ | refine Eq.trans (lent_k (by apply Eq.refl) (tr)) ?_)) | refine Eq.trans exI_def ?_); (repeat ((conv => lhs; whnf) <;> (first | apply Eq.refl | refine Eq.trans br_tt ?_ | refine Eq.trans br_ff ?_ | refine Eq.trans (br_t (by assumption)) ?_ | refine Eq.trans (br_f (by assumption)) ?_ | refine Eq.trans br_not ?_ | refine Eq.trans (br_yes (by (first | omega | assumption))) ?_ | refine Eq.trans (br_no (by (first | omega | assumption))) ?_ | refine Eq.trans (chk_ok (by (first | apply Eq.refl | decide | omega | assumption | (simp [zr1, zr6, em, ew, ec, sp, q1, q2, q3, q4, q5, q6, q7, q8, q9, q10, wg, wg2, v1, v2, v3, v4, v5] <;> omega)))) ?_ | refine Eq.trans (get_some (by (first | apply Eq.refl | (simp (disch := first | omega | assumption) only [nfs, Int.reduceToNat, Int.toNat_natCast, List.getElem?_drop, List.drop_drop, Nat.reduceAdd, Nat.reduceMul, Nat.zero_mul, Nat.mul_one, Nat.add_zero, zr1, zr6, em, ew, ec, sp, q1, q2, q3, q4, q5, q6, q7, q8, q9, q10, wg, wg2, v1, v2, v3, v4, v5]; apply Eq.refl) | (simp (disch := first | omega | assumption) [zr1, zr6, em, ew, ec, sp, q1, q2, q3, q4, q5, q6, q7, q8, q9, q10, wg, wg2, v1, v2, v3, v4, v5] <;> apply Eq.refl)))) ?_ | refine Eq.trans (set_eq (by (first | (simp (disch := first | omega | assumption) only [nfs, Nat.reduceAdd, Nat.reduceMul, zr1, zr6, em, ew, ec, sp, q1, q2, q3, q4, q5, q6, q7, q8, q9, q10, wg, wg2, v1, v2, v3, v4, v5]; apply Eq.refl) | apply Eq.refl))) ?_ | refine Eq.trans (take_eq (by (first | (simp (disch := first | omega | assumption) only [nfs, Nat.reduceAdd, Nat.reduceMul, zr1, zr6, em, ew, ec, sp, q1, q2, q3, q4, q5, q6, q7, q8, q9, q10, wg, wg2, v1, v2, v3, v4, v5]; apply Eq.refl) | apply Eq.refl))) ?_ | refine Eq.trans (join_eq (by (first | (simp (disch := first | omega | assumption) only [nfs, Nat.reduceAdd, Nat.reduceMul, zr1, zr6, em, ew, ec, sp, q1, q2, q3, q4, q5, q6, q7, q8, q9, q10, wg, wg2, v1, v2, v3, v4, v5]; apply Eq.refl) | apply Eq.refl))) ?_ | refine Eq.trans (str_some (by (first | apply Eq.refl | (simp (disch := first | omega | assumption) only [nfs, Int.reduceToNat, Int.toNat_natCast, List.getElem?_drop, List.drop_drop, Nat.reduceAdd, Nat.reduceMul, Nat.zero_mul, Nat.mul_one, Nat.add_zero, zr1, zr6, em, ew, ec, sp, q1, q2, q3, q4, q5, q6, q7, q8, q9, q10, wg, wg2, v1, v2, v3, v4, v5]; apply Eq.refl) | (simp (disch := first | omega | assumption) [zr1, zr6, em, ew, ec, sp, q1, q2, q3, q4, q5, q6, q7, q8, q9, q10, wg, wg2, v1, v2, v3, v4, v5] <;> apply Eq.refl)))) ?_ | refine Eq.trans (norm_eq (by (first | (simp (disch := first | omega | assumption) only [nfs, Nat.reduceAdd, Nat.reduceMul, zr1, zr6, em, ew, ec, sp, q1, q2, q3, q4, q5, q6, q7, q8, q9, q10, wg, wg2, v1, v2, v3, v4, v5]; apply Eq.refl) | apply Eq.refl))) ?_ | refine Eq.trans (nat_eq (by (first | (simp (disch := first | omega | assumption) only [Int.toNat_natCast, Int.reduceToNat, Int.toNat_zero, zr1, zr6, em, ew, ec, sp, q1, q2, q3, q4, q5, q6, q7, q8, q9, q10, wg, wg2, v1, v2, v3, v4, v5]; apply Eq.refl) | apply Eq.refl))) ?_ | refine Eq.trans (byt_eq (by (first | apply Eq.refl | (simp (disch := first | omega | assumption) only [u8s_map, zr1, zr6, em, ew, ec, sp, q1, q2, q3, q4, q5, q6, q7, q8, q9, q10, wg, wg2, v1, v2, v3, v4, v5]; apply Eq.refl) | (simp (disch := first | omega | assumption) [u8s_map, zr1, zr6, em, ew, ec, sp, q1, q2, q3, q4, q5, q6, q7, q8, q9, q10, wg, wg2, v1, v2, v3, v4, v5]; done)))) ?_))))); (try (case hp => (intro κ'; apply Eq.refl)))) | refine Eq.trans (ops_run (by apply Eq.refl) (by apply Eq.refl)) ?_ | refine Eq.trans (ops_skip (by apply Eq.refl) (by apply Eq.refl) (by apply Eq.refl) (by intro κ'; apply Eq.refl)) ?_ | refine Eq.trans (ops_skipT (by apply Eq.refl) (by apply Eq.refl) (by apply Eq.refl) (by intro κ'; apply Eq.refl)) ?_ | refine Eq.trans (ops_nil (by intro κ'; apply Eq.refl)) ?_ | refine Eq.trans ex_seq ?_ | refine Eq.trans ex_region ?_ | refine Eq.trans ex_block ?_ | refine Eq.trans (ex_cond (by intro κ'; apply Eq.refl)) ?_ | refine Eq.trans br_tt ?_ | refine Eq.trans br_ff ?_ | refine Eq.trans k_seq ?_ | refine Eq.trans k_seq_ret ?_ | refine Eq.trans k_seq_exit ?_ | refine Eq.trans k_blk ?_ | refine Eq.trans k_blk_ret ?_ | refine Eq.trans k_blk_here ?_ | refine Eq.trans (k_blk_exit (by apply Eq.refl)) ?_ | refine Eq.trans ex_ret ?_ | refine Eq.trans ex_exit ?_ | refine Eq.trans ex_skip ?_ | refine Eq.trans ex_loop ?_ | refine Eq.trans (loop_head (by intro κ'; apply Eq.refl)) ?_ | refine Eq.trans (br_yes (by (first | omega | assumption))) ?_ | refine Eq.trans (br_no (by (first | omega | assumption))) ?_ | refine Eq.trans (br_t (by assumption)) ?_ | refine Eq.trans (br_f (by assumption)) ?_ | refine Eq.trans br_not ?_ | refine Eq.trans (ops_known (by apply Eq.refl) (by apply Eq.refl) (by (first | assumption | (apply decide_eq_true; first | assumption | omega) | (apply decide_eq_false; first | assumption | omega) | exact congrArg Bool.not (by assumption))) (by intro κ'; apply Eq.refl)) ?_))
    ((first | refine Eq.trans fin_ret ?_ | refine Eq.trans fin_normal ?_); (repeat ((conv => lhs; whnf) <;> (first | refine Eq.trans (chk_ok (by (first | apply Eq.refl | decide | omega | assumption | (simp [] <;> omega)))) ?_ | refine Eq.trans (get_some (by (first | apply Eq.refl | (simp (disch := first | omega | assumption) [] <;> apply Eq.refl)))) ?_ | refine Eq.trans (take_eq (by (first | (simp (disch := first | omega | assumption) only [nfs, Nat.reduceAdd, Nat.reduceMul]; apply Eq.refl) | apply Eq.refl))) ?_))); try (conv => lhs; whnf))
    try rfl
  · have tr := t_Row (0 + 1) (hoL n c false true) 0 (by simp [hoL])
    have eg : hoG n false = 1048576 + (n : Int) := by simp [hoG]
    obtain ⟨k0, k1, k2, k3, k4, k5, k6, k7, k8, k9, k10⟩ := key
    rw [k0] at tr
    have sp := row_put (hoL n c false true) 0
    have sl := row_len (hoL n c false true) 0
    have q1 := row_g0 (hoL n c false true) 0 (i := 2) (by omega)
    rw [show (ceF (hoL n c false true) 0 2).glyph = 1048576 + (n : Int) from k1.trans eg] at q1
    have q2 := row_g0 (hoL n c false true) 0 (i := 3) (by omega)
    rw [show (ceF (hoL n c false true) 0 3).glyph = 1048576 + (n : Int) from k2.trans eg] at q2
    have q3 := row_g0 (hoL n c false true) 0 (i := 4) (by omega)
    rw [show (ceF (hoL n c false true) 0 4).glyph = 1048576 + (n : Int) from k3.trans eg] at q3
    have q4 := row_g0 (hoL n c false true) 0 (i := 5) (by omega)
    rw [show (ceF (hoL n c false true) 0 5).glyph = 1048576 + (n : Int) from k4.trans eg] at q4
    have q5 := row_g0 (hoL n c false true) 0 (i := 6) (by omega)
    rw [show (ceF (hoL n c false true) 0 6).glyph = 1048576 + (n : Int) from k5.trans eg] at q5
    have q6 := row_g0 (hoL n c false true) 0 (i := 7) (by omega)
    rw [show (ceF (hoL n c false true) 0 7).glyph = 32 from k6] at q6
    have q7 := row_g1 (hoL n c false true) 0 (i := 7) (by omega)
    rw [show (ceF (hoL n c false true) 0 7).fg = (c : Int) from k7] at q7
    have q8 := row_g1 (hoL n c false true) 0 (i := 3) (by omega)
    rw [show (ceF (hoL n c false true) 0 3).fg = 1 from k8] at q8
    have q9 := row_g3 (hoL n c false true) 0 (i := 7) (by omega)
    rw [show (ceF (hoL n c false true) 0 7).flash = false from k9] at q9
    have q10 := row_g3 (hoL n c false true) 0 (i := 6) (by omega)
    rw [show (ceF (hoL n c false true) 0 6).flash = true from k10] at q10
    clear k0 k1 k2 k3 k4 k5 k6 k7 k8 k9 k10
    generalize flat Cell.enc (rowL (hoL n c false true) 0 40) = cs at tr sp sl q1 q2 q3 q4 q5 q6 q7 q8 q9 q10
    replace q1 : cs[20]? = some (.int .i64 (1048576 + (n : Int))) := q1
    replace q2 : cs[30]? = some (.int .i64 (1048576 + (n : Int))) := q2
    replace q3 : cs[40]? = some (.int .i64 (1048576 + (n : Int))) := q3
    replace q4 : cs[50]? = some (.int .i64 (1048576 + (n : Int))) := q4
    replace q5 : cs[60]? = some (.int .i64 (1048576 + (n : Int))) := q5
    replace q6 : cs[70]? = some (.int .i64 (32)) := q6
    replace q7 : cs[71]? = some (.int .i64 ((c : Int))) := q7
    replace q8 : cs[31]? = some (.int .i64 (1)) := q8
    replace q9 : cs[73]? = some (.bool (false)) := q9
    replace q10 : cs[63]? = some (.bool (true)) := q10
    have v1 : IntKind.i64.wrap (((2 : Nat) : Int) + 1) = 3 := by decide
    have v2 : IntKind.i64.wrap (((2 : Nat) : Int) + 2) = 4 := by decide
    have v3 : IntKind.i64.wrap (((2 : Nat) : Int) + 3) = 5 := by decide
    have v4 : IntKind.i64.wrap (((2 : Nat) : Int) + 4) = 6 := by decide
    have v5 : IntKind.i64.wrap (((2 : Nat) : Int) + 5) = 7 := by decide
    (repeat (first | ((first | apply Eq.trans (opsI_cons ?hn ?h ?hp) | apply Eq.trans (opsI_cons0 ?hn ?h)); (case hn => apply Eq.refl); (case h => (intro κ'; (first | ((first | refine Eq.trans (opi_call (by apply Eq.refl) (by apply Eq.refl) (by apply Eq.refl)) ?_ | refine Eq.trans (opi_build_s (by apply Eq.refl) (by apply Eq.refl)) ?_ | refine Eq.trans (opi_build_a (by apply Eq.refl) (by apply Eq.refl) (by apply Eq.refl)) ?_ | refine Eq.trans (opi_buildSlice (by apply Eq.refl) (by apply Eq.refl) (by apply Eq.refl) (by decide)) ?_ | refine Eq.trans (opi_builtin (by apply Eq.refl) (by apply Eq.refl) (by apply Eq.refl)) ?_ | refine Eq.trans (opi_alloc (by apply Eq.refl) (by (first | (simp (disch := first | omega | assumption) only [nfs, Nat.reduceAdd, Nat.reduceMul, zr1, zr6, em, ew, ec, sp, q1, q2, q3, q4, q5, q6, q7, q8, q9, q10, wg, wg2, v1, v2, v3, v4, v5]; apply Eq.refl) | apply Eq.refl))) ?_); repeat (first | refine Eq.trans (opsl_cons (by intro κ'; apply Eq.refl)) ?_ | refine Eq.trans opsl_nil ?_ | refine Eq.trans (parts_cons (by intro κ'; apply Eq.refl)) ?_ | refine Eq.trans parts_nil ?_ | refine Eq.trans (fill_one (by apply Eq.refl) (by apply Eq.refl) (by intro κ'; apply Eq.refl) (by (first | apply Eq.refl | (simp [zr1, zr6, em, ew, ec, sp, q1, q2, q3, q4, q5, q6, q7, q8, q9, q10, wg, wg2, v1, v2, v3, v4, v5] <;> omega))) (by (first | (simp (disch := first | omega | assumption) only [nfs, Nat.reduceAdd, Nat.reduceMul, zr1, zr6, em, ew, ec, sp, q1, q2, q3, q4, q5, q6, q7, q8, q9, q10, wg, wg2, v1, v2, v3, v4, v5]; apply Eq.refl) | apply Eq.refl))) ?_ | refine Eq.trans fill_nil ?_ | refine Eq.trans (lend_easy (by apply Eq.refl)) ?_ | refine Eq.trans (lend_ref (by apply Eq.refl) (by apply Eq.refl) (by (first | apply Eq.refl | decide | omega | assumption | (simp [zr1, zr6, em, ew, ec, sp, q1, q2, q3, q4, q5, q6, q7, q8, q9, q10, wg, wg2, v1, v2, v3, v4, v5] <;> omega))) (by (first | (simp (disch := first | omega | assumption) only [nfs, Nat.reduceAdd, Nat.reduceMul, zr1, zr6, em, ew, ec, sp, q1, q2, q3, q4, q5, q6, q7, q8, q9, q10, wg, wg2, v1, v2, v3, v4, v5]; apply Eq.refl) | apply Eq.refl))) ?_ | refine Eq.trans (lend_msl (by apply Eq.refl) (by (first | apply Eq.refl | decide | omega | assumption | (simp [zr1, zr6, em, ew, ec, sp, q1, q2, q3, q4, q5, q6, q7, q8, q9, q10, wg, wg2, v1, v2, v3, v4, v5] <;> omega))) (by (first | (simp (disch := first | omega | assumption) only [nfs, Nat.reduceAdd, Nat.reduceMul, zr1, zr6, em, ew, ec, sp, q1, q2, q3, q4, q5, q6, q7, q8, q9, q10, wg, wg2, v1, v2, v3, v4, v5]; apply Eq.refl) | apply Eq.refl))) ?_ | refine Eq.trans lend_nil ?_ | refine Eq.trans (norm_eq (by (first | (simp (disch := first | omega | assumption) only [nfs, Nat.reduceAdd, Nat.reduceMul, zr1, zr6, em, ew, ec, sp, q1, q2, q3, q4, q5, q6, q7, q8, q9, q10, wg, wg2, v1, v2, v3, v4, v5]; apply Eq.refl) | apply Eq.refl))) ?_ | refine Eq.trans (call_k (by apply Eq.refl)) ?_ | refine Eq.trans give_none ?_ | refine Eq.trans (give_some (by apply Eq.refl) (by (first | apply Eq.refl | decide | omega | assumption | (simp [zr1, zr6, em, ew, ec, sp, q1, q2, q3, q4, q5, q6, q7, q8, q9, q10, wg, wg2, v1, v2, v3, v4, v5] <;> omega))) (by (first | (simp (disch := first | omega | assumption) only [nfs, Nat.reduceAdd, Nat.reduceMul, zr1, zr6, em, ew, ec, sp, q1, q2, q3, q4, q5, q6, q7, q8, q9, q10, wg, wg2, v1, v2, v3, v4, v5]; apply Eq.refl) | apply Eq.refl)) (by intro κ'; apply Eq.refl)) ?_ | refine Eq.trans give_nil ?_ | refine Eq.trans adopt_no ?_ | refine Eq.trans adopt_fsl ?_ | refine Eq.trans (lent_k (by apply Eq.refl) (t_law15_first _)) ?_ | refine Eq.trans (lent_k (by apply Eq.refl) (tn)) ?_ | refine Eq.trans (lent_k (by apply Eq.refl) (tc)) ?_ | refine Eq.trans (lent_k (by apply Eq.refl) (tr)) ?_)) | refine Eq.trans exI_def ?_); (repeat ((conv => lhs; whnf) <;> (first | apply Eq.refl | refine Eq.trans br_tt ?_ | refine Eq.trans br_ff ?_ | refine Eq.trans (br_t (by assumption)) ?_ | refine Eq.trans (br_f (by assumption)) ?_ | refine Eq.trans br_not ?_ | refine Eq.trans (br_yes (by (first | omega | assumption))) ?_ | refine Eq.trans (br_no (by (first | omega | assumption))) ?_ | refine Eq.trans (chk_ok (by (first | apply Eq.refl | decide | omega | assumption | (simp [zr1, zr6, em, ew, ec, sp, q1, q2, q3, q4, q5, q6, q7, q8, q9, q10, wg, wg2, v1, v2, v3, v4, v5] <;> omega)))) ?_ | refine Eq.trans (get_some (by (first | apply Eq.refl | (simp (disch := first | omega | assumption) only [nfs, Int.reduceToNat, Int.toNat_natCast, List.getElem?_drop, List.drop_drop, Nat.reduceAdd, Nat.reduceMul, Nat.zero_mul, Nat.mul_one, Nat.add_zero, zr1, zr6, em, ew, ec, sp, q1, q2, q3, q4, q5, q6, q7, q8, q9, q10, wg, wg2, v1, v2, v3, v4, v5]; apply Eq.refl) | (simp (disch := first | omega | assumption) [zr1, zr6, em, ew, ec, sp, q1, q2, q3, q4, q5, q6, q7, q8, q9, q10, wg, wg2, v1, v2, v3, v4, v5] <;> apply Eq.refl)))) ?_ | refine Eq.trans (set_eq (by (first | (simp (disch := first | omega | assumption) only [nfs, Nat.reduceAdd, Nat.reduceMul, zr1, zr6, em, ew, ec, sp, q1, q2, q3, q4, q5, q6, q7, q8, q9, q10, wg, wg2, v1, v2, v3, v4, v5]; apply Eq.refl) | apply Eq.refl))) ?_ | refine Eq.trans (take_eq (by (first | (simp (disch := first | omega | assumption) only [nfs, Nat.reduceAdd, Nat.reduceMul, zr1, zr6, em, ew, ec, sp, q1, q2, q3, q4, q5, q6, q7, q8, q9, q10, wg, wg2, v1, v2, v3, v4, v5]; apply Eq.refl) | apply Eq.refl))) ?_ | refine Eq.trans (join_eq (by (first | (simp (disch := first | omega | assumption) only [nfs, Nat.reduceAdd, Nat.reduceMul, zr1, zr6, em, ew, ec, sp, q1, q2, q3, q4, q5, q6, q7, q8, q9, q10, wg, wg2, v1, v2, v3, v4, v5]; apply Eq.refl) | apply Eq.refl))) ?_ | refine Eq.trans (str_some (by (first | apply Eq.refl | (simp (disch := first | omega | assumption) only [nfs, Int.reduceToNat, Int.toNat_natCast, List.getElem?_drop, List.drop_drop, Nat.reduceAdd, Nat.reduceMul, Nat.zero_mul, Nat.mul_one, Nat.add_zero, zr1, zr6, em, ew, ec, sp, q1, q2, q3, q4, q5, q6, q7, q8, q9, q10, wg, wg2, v1, v2, v3, v4, v5]; apply Eq.refl) | (simp (disch := first | omega | assumption) [zr1, zr6, em, ew, ec, sp, q1, q2, q3, q4, q5, q6, q7, q8, q9, q10, wg, wg2, v1, v2, v3, v4, v5] <;> apply Eq.refl)))) ?_ | refine Eq.trans (norm_eq (by (first | (simp (disch := first | omega | assumption) only [nfs, Nat.reduceAdd, Nat.reduceMul, zr1, zr6, em, ew, ec, sp, q1, q2, q3, q4, q5, q6, q7, q8, q9, q10, wg, wg2, v1, v2, v3, v4, v5]; apply Eq.refl) | apply Eq.refl))) ?_ | refine Eq.trans (nat_eq (by (first | (simp (disch := first | omega | assumption) only [Int.toNat_natCast, Int.reduceToNat, Int.toNat_zero, zr1, zr6, em, ew, ec, sp, q1, q2, q3, q4, q5, q6, q7, q8, q9, q10, wg, wg2, v1, v2, v3, v4, v5]; apply Eq.refl) | apply Eq.refl))) ?_ | refine Eq.trans (byt_eq (by (first | apply Eq.refl | (simp (disch := first | omega | assumption) only [u8s_map, zr1, zr6, em, ew, ec, sp, q1, q2, q3, q4, q5, q6, q7, q8, q9, q10, wg, wg2, v1, v2, v3, v4, v5]; apply Eq.refl) | (simp (disch := first | omega | assumption) [u8s_map, zr1, zr6, em, ew, ec, sp, q1, q2, q3, q4, q5, q6, q7, q8, q9, q10, wg, wg2, v1, v2, v3, v4, v5]; done)))) ?_))))); (try (case hp => (intro κ'; apply Eq.refl)))) | refine Eq.trans (ops_run (by apply Eq.refl) (by apply Eq.refl)) ?_ | refine Eq.trans (ops_skip (by apply Eq.refl) (by apply Eq.refl) (by apply Eq.refl) (by intro κ'; apply Eq.refl)) ?_ | refine Eq.trans (ops_skipT (by apply Eq.refl) (by apply Eq.refl) (by apply Eq.refl) (by intro κ'; apply Eq.refl)) ?_ | refine Eq.trans (ops_nil (by intro κ'; apply Eq.refl)) ?_ | refine Eq.trans ex_seq ?_ | refine Eq.trans ex_region ?_ | refine Eq.trans ex_block ?_ | refine Eq.trans (ex_cond (by intro κ'; apply Eq.refl)) ?_ | refine Eq.trans br_tt ?_ | refine Eq.trans br_ff ?_ | refine Eq.trans k_seq ?_ | refine Eq.trans k_seq_ret ?_ | refine Eq.trans k_seq_exit ?_ | refine Eq.trans k_blk ?_ | refine Eq.trans k_blk_ret ?_ | refine Eq.trans k_blk_here ?_ | refine Eq.trans (k_blk_exit (by apply Eq.refl)) ?_ | refine Eq.trans ex_ret ?_ | refine Eq.trans ex_exit ?_ | refine Eq.trans ex_skip ?_ | refine Eq.trans ex_loop ?_ | refine Eq.trans (loop_head (by intro κ'; apply Eq.refl)) ?_ | refine Eq.trans (br_yes (by (first | omega | assumption))) ?_ | refine Eq.trans (br_no (by (first | omega | assumption))) ?_ | refine Eq.trans (br_t (by assumption)) ?_ | refine Eq.trans (br_f (by assumption)) ?_ | refine Eq.trans br_not ?_ | refine Eq.trans (ops_known (by apply Eq.refl) (by apply Eq.refl) (by (first | assumption | (apply decide_eq_true; first | assumption | omega) | (apply decide_eq_false; first | assumption | omega) | exact congrArg Bool.not (by assumption))) (by intro κ'; apply Eq.refl)) ?_))
    ((first | refine Eq.trans fin_ret ?_ | refine Eq.trans fin_normal ?_); (repeat ((conv => lhs; whnf) <;> (first | refine Eq.trans (chk_ok (by (first | apply Eq.refl | decide | omega | assumption | (simp [] <;> omega)))) ?_ | refine Eq.trans (get_some (by (first | apply Eq.refl | (simp (disch := first | omega | assumption) [] <;> apply Eq.refl)))) ?_ | refine Eq.trans (take_eq (by (first | (simp (disch := first | omega | assumption) only [nfs, Nat.reduceAdd, Nat.reduceMul]; apply Eq.refl) | apply Eq.refl))) ?_))); try (conv => lhs; whnf))
    try rfl
  · have tr := t_Row (0 + 1) (hoL n c true false) 0 (by simp [hoL])
    have eg : hoG n true = 1048576 + (n : Int) + 64 := by simp [hoG]
    obtain ⟨k0, k1, k2, k3, k4, k5, k6, k7, k8, k9, k10⟩ := key
    rw [k0] at tr
    have sp := row_put (hoL n c true false) 0
    have sl := row_len (hoL n c true false) 0
    have q1 := row_g0 (hoL n c true false) 0 (i := 2) (by omega)
    rw [show (ceF (hoL n c true false) 0 2).glyph = 1048576 + (n : Int) + 64 from k1.trans eg] at q1
    have q2 := row_g0 (hoL n c true false) 0 (i := 3) (by omega)
    rw [show (ceF (hoL n c true false) 0 3).glyph = 32 from k2] at q2
    have q3 := row_g0 (hoL n c true false) 0 (i := 4) (by omega)
    rw [show (ceF (hoL n c true false) 0 4).glyph = 32 from k3] at q3
    have q4 := row_g0 (hoL n c true false) 0 (i := 5) (by omega)
    rw [show (ceF (hoL n c true false) 0 5).glyph = 32 from k4] at q4
    have q5 := row_g0 (hoL n c true false) 0 (i := 6) (by omega)
    rw [show (ceF (hoL n c true false) 0 6).glyph = 32 from k5] at q5
    have q6 := row_g0 (hoL n c true false) 0 (i := 7) (by omega)
    rw [show (ceF (hoL n c true false) 0 7).glyph = 32 from k6] at q6
    have q7 := row_g1 (hoL n c true false) 0 (i := 7) (by omega)
    rw [show (ceF (hoL n c true false) 0 7).fg = (c : Int) from k7] at q7
    have q8 := row_g1 (hoL n c true false) 0 (i := 3) (by omega)
    rw [show (ceF (hoL n c true false) 0 3).fg = 1 from k8] at q8
    have q9 := row_g3 (hoL n c true false) 0 (i := 7) (by omega)
    rw [show (ceF (hoL n c true false) 0 7).flash = false from k9] at q9
    have q10 := row_g3 (hoL n c true false) 0 (i := 6) (by omega)
    rw [show (ceF (hoL n c true false) 0 6).flash = true from k10] at q10
    clear k0 k1 k2 k3 k4 k5 k6 k7 k8 k9 k10
    generalize flat Cell.enc (rowL (hoL n c true false) 0 40) = cs at tr sp sl q1 q2 q3 q4 q5 q6 q7 q8 q9 q10
    replace q1 : cs[20]? = some (.int .i64 (1048576 + (n : Int) + 64)) := q1
    replace q2 : cs[30]? = some (.int .i64 (32)) := q2
    replace q3 : cs[40]? = some (.int .i64 (32)) := q3
    replace q4 : cs[50]? = some (.int .i64 (32)) := q4
    replace q5 : cs[60]? = some (.int .i64 (32)) := q5
    replace q6 : cs[70]? = some (.int .i64 (32)) := q6
    replace q7 : cs[71]? = some (.int .i64 ((c : Int))) := q7
    replace q8 : cs[31]? = some (.int .i64 (1)) := q8
    replace q9 : cs[73]? = some (.bool (false)) := q9
    replace q10 : cs[63]? = some (.bool (true)) := q10
    have v1 : IntKind.i64.wrap (((2 : Nat) : Int) + 1) = 3 := by decide
    have v2 : IntKind.i64.wrap (((2 : Nat) : Int) + 2) = 4 := by decide
    have v3 : IntKind.i64.wrap (((2 : Nat) : Int) + 3) = 5 := by decide
    have v4 : IntKind.i64.wrap (((2 : Nat) : Int) + 4) = 6 := by decide
    have v5 : IntKind.i64.wrap (((2 : Nat) : Int) + 5) = 7 := by decide
    (repeat (first | ((first | apply Eq.trans (opsI_cons ?hn ?h ?hp) | apply Eq.trans (opsI_cons0 ?hn ?h)); (case hn => apply Eq.refl); (case h => (intro κ'; (first | ((first | refine Eq.trans (opi_call (by apply Eq.refl) (by apply Eq.refl) (by apply Eq.refl)) ?_ | refine Eq.trans (opi_build_s (by apply Eq.refl) (by apply Eq.refl)) ?_ | refine Eq.trans (opi_build_a (by apply Eq.refl) (by apply Eq.refl) (by apply Eq.refl)) ?_ | refine Eq.trans (opi_buildSlice (by apply Eq.refl) (by apply Eq.refl) (by apply Eq.refl) (by decide)) ?_ | refine Eq.trans (opi_builtin (by apply Eq.refl) (by apply Eq.refl) (by apply Eq.refl)) ?_ | refine Eq.trans (opi_alloc (by apply Eq.refl) (by (first | (simp (disch := first | omega | assumption) only [nfs, Nat.reduceAdd, Nat.reduceMul, zr1, zr6, em, ew, ec, sp, q1, q2, q3, q4, q5, q6, q7, q8, q9, q10, wg, wg2, v1, v2, v3, v4, v5]; apply Eq.refl) | apply Eq.refl))) ?_); repeat (first | refine Eq.trans (opsl_cons (by intro κ'; apply Eq.refl)) ?_ | refine Eq.trans opsl_nil ?_ | refine Eq.trans (parts_cons (by intro κ'; apply Eq.refl)) ?_ | refine Eq.trans parts_nil ?_ | refine Eq.trans (fill_one (by apply Eq.refl) (by apply Eq.refl) (by intro κ'; apply Eq.refl) (by (first | apply Eq.refl | (simp [zr1, zr6, em, ew, ec, sp, q1, q2, q3, q4, q5, q6, q7, q8, q9, q10, wg, wg2, v1, v2, v3, v4, v5] <;> omega))) (by (first | (simp (disch := first | omega | assumption) only [nfs, Nat.reduceAdd, Nat.reduceMul, zr1, zr6, em, ew, ec, sp, q1, q2, q3, q4, q5, q6, q7, q8, q9, q10, wg, wg2, v1, v2, v3, v4, v5]; apply Eq.refl) | apply Eq.refl))) ?_ | refine Eq.trans fill_nil ?_ | refine Eq.trans (lend_easy (by apply Eq.refl)) ?_ | refine Eq.trans (lend_ref (by apply Eq.refl) (by apply Eq.refl) (by (first | apply Eq.refl | decide | omega | assumption | (simp [zr1, zr6, em, ew, ec, sp, q1, q2, q3, q4, q5, q6, q7, q8, q9, q10, wg, wg2, v1, v2, v3, v4, v5] <;> omega))) (by (first | (simp (disch := first | omega | assumption) only [nfs, Nat.reduceAdd, Nat.reduceMul, zr1, zr6, em, ew, ec, sp, q1, q2, q3, q4, q5, q6, q7, q8, q9, q10, wg, wg2, v1, v2, v3, v4, v5]; apply Eq.refl) | apply Eq.refl))) ?_ | refine Eq.trans (lend_msl (by apply Eq.refl) (by (first | apply Eq.refl | decide | omega | assumption | (simp [zr1, zr6, em, ew, ec, sp, q1, q2, q3, q4, q5, q6, q7, q8, q9, q10, wg, wg2, v1, v2, v3, v4, v5] <;> omega))) (by (first | (simp (disch := first | omega | assumption) only [nfs, Nat.reduceAdd, Nat.reduceMul, zr1, zr6, em, ew, ec, sp, q1, q2, q3, q4, q5, q6, q7, q8, q9, q10, wg, wg2, v1, v2, v3, v4, v5]; apply Eq.refl) | apply Eq.refl))) ?_ | refine Eq.trans lend_nil ?_ | refine Eq.trans (norm_eq (by (first | (simp (disch := first | omega | assumption) only [nfs, Nat.reduceAdd, Nat.reduceMul, zr1, zr6, em, ew, ec, sp, q1, q2, q3, q4, q5, q6, q7, q8, q9, q10, wg, wg2, v1, v2, v3, v4, v5]; apply Eq.refl) | apply Eq.refl))) ?_ | refine Eq.trans (call_k (by apply Eq.refl)) ?_ | refine Eq.trans give_none ?_ | refine Eq.trans (give_some (by apply Eq.refl) (by (first | apply Eq.refl | decide | omega | assumption | (simp [zr1, zr6, em, ew, ec, sp, q1, q2, q3, q4, q5, q6, q7, q8, q9, q10, wg, wg2, v1, v2, v3, v4, v5] <;> omega))) (by (first | (simp (disch := first | omega | assumption) only [nfs, Nat.reduceAdd, Nat.reduceMul, zr1, zr6, em, ew, ec, sp, q1, q2, q3, q4, q5, q6, q7, q8, q9, q10, wg, wg2, v1, v2, v3, v4, v5]; apply Eq.refl) | apply Eq.refl)) (by intro κ'; apply Eq.refl)) ?_ | refine Eq.trans give_nil ?_ | refine Eq.trans adopt_no ?_ | refine Eq.trans adopt_fsl ?_ | refine Eq.trans (lent_k (by apply Eq.refl) (t_law15_first _)) ?_ | refine Eq.trans (lent_k (by apply Eq.refl) (tn)) ?_ | refine Eq.trans (lent_k (by apply Eq.refl) (tc)) ?_ | refine Eq.trans (lent_k (by apply Eq.refl) (tr)) ?_)) | refine Eq.trans exI_def ?_); (repeat ((conv => lhs; whnf) <;> (first | apply Eq.refl | refine Eq.trans br_tt ?_ | refine Eq.trans br_ff ?_ | refine Eq.trans (br_t (by assumption)) ?_ | refine Eq.trans (br_f (by assumption)) ?_ | refine Eq.trans br_not ?_ | refine Eq.trans (br_yes (by (first | omega | assumption))) ?_ | refine Eq.trans (br_no (by (first | omega | assumption))) ?_ | refine Eq.trans (chk_ok (by (first | apply Eq.refl | decide | omega | assumption | (simp [zr1, zr6, em, ew, ec, sp, q1, q2, q3, q4, q5, q6, q7, q8, q9, q10, wg, wg2, v1, v2, v3, v4, v5] <;> omega)))) ?_ | refine Eq.trans (get_some (by (first | apply Eq.refl | (simp (disch := first | omega | assumption) only [nfs, Int.reduceToNat, Int.toNat_natCast, List.getElem?_drop, List.drop_drop, Nat.reduceAdd, Nat.reduceMul, Nat.zero_mul, Nat.mul_one, Nat.add_zero, zr1, zr6, em, ew, ec, sp, q1, q2, q3, q4, q5, q6, q7, q8, q9, q10, wg, wg2, v1, v2, v3, v4, v5]; apply Eq.refl) | (simp (disch := first | omega | assumption) [zr1, zr6, em, ew, ec, sp, q1, q2, q3, q4, q5, q6, q7, q8, q9, q10, wg, wg2, v1, v2, v3, v4, v5] <;> apply Eq.refl)))) ?_ | refine Eq.trans (set_eq (by (first | (simp (disch := first | omega | assumption) only [nfs, Nat.reduceAdd, Nat.reduceMul, zr1, zr6, em, ew, ec, sp, q1, q2, q3, q4, q5, q6, q7, q8, q9, q10, wg, wg2, v1, v2, v3, v4, v5]; apply Eq.refl) | apply Eq.refl))) ?_ | refine Eq.trans (take_eq (by (first | (simp (disch := first | omega | assumption) only [nfs, Nat.reduceAdd, Nat.reduceMul, zr1, zr6, em, ew, ec, sp, q1, q2, q3, q4, q5, q6, q7, q8, q9, q10, wg, wg2, v1, v2, v3, v4, v5]; apply Eq.refl) | apply Eq.refl))) ?_ | refine Eq.trans (join_eq (by (first | (simp (disch := first | omega | assumption) only [nfs, Nat.reduceAdd, Nat.reduceMul, zr1, zr6, em, ew, ec, sp, q1, q2, q3, q4, q5, q6, q7, q8, q9, q10, wg, wg2, v1, v2, v3, v4, v5]; apply Eq.refl) | apply Eq.refl))) ?_ | refine Eq.trans (str_some (by (first | apply Eq.refl | (simp (disch := first | omega | assumption) only [nfs, Int.reduceToNat, Int.toNat_natCast, List.getElem?_drop, List.drop_drop, Nat.reduceAdd, Nat.reduceMul, Nat.zero_mul, Nat.mul_one, Nat.add_zero, zr1, zr6, em, ew, ec, sp, q1, q2, q3, q4, q5, q6, q7, q8, q9, q10, wg, wg2, v1, v2, v3, v4, v5]; apply Eq.refl) | (simp (disch := first | omega | assumption) [zr1, zr6, em, ew, ec, sp, q1, q2, q3, q4, q5, q6, q7, q8, q9, q10, wg, wg2, v1, v2, v3, v4, v5] <;> apply Eq.refl)))) ?_ | refine Eq.trans (norm_eq (by (first | (simp (disch := first | omega | assumption) only [nfs, Nat.reduceAdd, Nat.reduceMul, zr1, zr6, em, ew, ec, sp, q1, q2, q3, q4, q5, q6, q7, q8, q9, q10, wg, wg2, v1, v2, v3, v4, v5]; apply Eq.refl) | apply Eq.refl))) ?_ | refine Eq.trans (nat_eq (by (first | (simp (disch := first | omega | assumption) only [Int.toNat_natCast, Int.reduceToNat, Int.toNat_zero, zr1, zr6, em, ew, ec, sp, q1, q2, q3, q4, q5, q6, q7, q8, q9, q10, wg, wg2, v1, v2, v3, v4, v5]; apply Eq.refl) | apply Eq.refl))) ?_ | refine Eq.trans (byt_eq (by (first | apply Eq.refl | (simp (disch := first | omega | assumption) only [u8s_map, zr1, zr6, em, ew, ec, sp, q1, q2, q3, q4, q5, q6, q7, q8, q9, q10, wg, wg2, v1, v2, v3, v4, v5]; apply Eq.refl) | (simp (disch := first | omega | assumption) [u8s_map, zr1, zr6, em, ew, ec, sp, q1, q2, q3, q4, q5, q6, q7, q8, q9, q10, wg, wg2, v1, v2, v3, v4, v5]; done)))) ?_))))); (try (case hp => (intro κ'; apply Eq.refl)))) | refine Eq.trans (ops_run (by apply Eq.refl) (by apply Eq.refl)) ?_ | refine Eq.trans (ops_skip (by apply Eq.refl) (by apply Eq.refl) (by apply Eq.refl) (by intro κ'; apply Eq.refl)) ?_ | refine Eq.trans (ops_skipT (by apply Eq.refl) (by apply Eq.refl) (by apply Eq.refl) (by intro κ'; apply Eq.refl)) ?_ | refine Eq.trans (ops_nil (by intro κ'; apply Eq.refl)) ?_ | refine Eq.trans ex_seq ?_ | refine Eq.trans ex_region ?_ | refine Eq.trans ex_block ?_ | refine Eq.trans (ex_cond (by intro κ'; apply Eq.refl)) ?_ | refine Eq.trans br_tt ?_ | refine Eq.trans br_ff ?_ | refine Eq.trans k_seq ?_ | refine Eq.trans k_seq_ret ?_ | refine Eq.trans k_seq_exit ?_ | refine Eq.trans k_blk ?_ | refine Eq.trans k_blk_ret ?_ | refine Eq.trans k_blk_here ?_ | refine Eq.trans (k_blk_exit (by apply Eq.refl)) ?_ | refine Eq.trans ex_ret ?_ | refine Eq.trans ex_exit ?_ | refine Eq.trans ex_skip ?_ | refine Eq.trans ex_loop ?_ | refine Eq.trans (loop_head (by intro κ'; apply Eq.refl)) ?_ | refine Eq.trans (br_yes (by (first | omega | assumption))) ?_ | refine Eq.trans (br_no (by (first | omega | assumption))) ?_ | refine Eq.trans (br_t (by assumption)) ?_ | refine Eq.trans (br_f (by assumption)) ?_ | refine Eq.trans br_not ?_ | refine Eq.trans (ops_known (by apply Eq.refl) (by apply Eq.refl) (by (first | assumption | (apply decide_eq_true; first | assumption | omega) | (apply decide_eq_false; first | assumption | omega) | exact congrArg Bool.not (by assumption))) (by intro κ'; apply Eq.refl)) ?_))
    ((first | refine Eq.trans fin_ret ?_ | refine Eq.trans fin_normal ?_); (repeat ((conv => lhs; whnf) <;> (first | refine Eq.trans (chk_ok (by (first | apply Eq.refl | decide | omega | assumption | (simp [] <;> omega)))) ?_ | refine Eq.trans (get_some (by (first | apply Eq.refl | (simp (disch := first | omega | assumption) [] <;> apply Eq.refl)))) ?_ | refine Eq.trans (take_eq (by (first | (simp (disch := first | omega | assumption) only [nfs, Nat.reduceAdd, Nat.reduceMul]; apply Eq.refl) | apply Eq.refl))) ?_))); try (conv => lhs; whnf))
    try rfl
  · have tr := t_Row (0 + 1) (hoL n c true true) 0 (by simp [hoL])
    have eg : hoG n true = 1048576 + (n : Int) + 64 := by simp [hoG]
    obtain ⟨k0, k1, k2, k3, k4, k5, k6, k7, k8, k9, k10⟩ := key
    rw [k0] at tr
    have sp := row_put (hoL n c true true) 0
    have sl := row_len (hoL n c true true) 0
    have q1 := row_g0 (hoL n c true true) 0 (i := 3) (by omega)
    rw [show (ceF (hoL n c true true) 0 3).glyph = 1048576 + (n : Int) + 64 from k1.trans eg] at q1
    have q2 := row_g0 (hoL n c true true) 0 (i := 4) (by omega)
    rw [show (ceF (hoL n c true true) 0 4).glyph = 1048576 + (n : Int) + 64 from k2.trans eg] at q2
    have q3 := row_g0 (hoL n c true true) 0 (i := 5) (by omega)
    rw [show (ceF (hoL n c true true) 0 5).glyph = 1048576 + (n : Int) + 64 from k3.trans eg] at q3
    have q4 := row_g0 (hoL n c true true) 0 (i := 6) (by omega)
    rw [show (ceF (hoL n c true true) 0 6).glyph = 1048576 + (n : Int) + 64 from k4.trans eg] at q4
    have q5 := row_g0 (hoL n c true true) 0 (i := 7) (by omega)
    rw [show (ceF (hoL n c true true) 0 7).glyph = 1048576 + (n : Int) + 64 from k5.trans eg] at q5
    have q6 := row_g0 (hoL n c true true) 0 (i := 8) (by omega)
    rw [show (ceF (hoL n c true true) 0 8).glyph = 32 from k6] at q6
    have q7 := row_g1 (hoL n c true true) 0 (i := 8) (by omega)
    rw [show (ceF (hoL n c true true) 0 8).fg = (c : Int) from k7] at q7
    have q8 := row_g1 (hoL n c true true) 0 (i := 4) (by omega)
    rw [show (ceF (hoL n c true true) 0 4).fg = 1 from k8] at q8
    have q9 := row_g3 (hoL n c true true) 0 (i := 8) (by omega)
    rw [show (ceF (hoL n c true true) 0 8).flash = false from k9] at q9
    have q10 := row_g3 (hoL n c true true) 0 (i := 7) (by omega)
    rw [show (ceF (hoL n c true true) 0 7).flash = true from k10] at q10
    clear k0 k1 k2 k3 k4 k5 k6 k7 k8 k9 k10
    generalize flat Cell.enc (rowL (hoL n c true true) 0 40) = cs at tr sp sl q1 q2 q3 q4 q5 q6 q7 q8 q9 q10
    replace q1 : cs[30]? = some (.int .i64 (1048576 + (n : Int) + 64)) := q1
    replace q2 : cs[40]? = some (.int .i64 (1048576 + (n : Int) + 64)) := q2
    replace q3 : cs[50]? = some (.int .i64 (1048576 + (n : Int) + 64)) := q3
    replace q4 : cs[60]? = some (.int .i64 (1048576 + (n : Int) + 64)) := q4
    replace q5 : cs[70]? = some (.int .i64 (1048576 + (n : Int) + 64)) := q5
    replace q6 : cs[80]? = some (.int .i64 (32)) := q6
    replace q7 : cs[81]? = some (.int .i64 ((c : Int))) := q7
    replace q8 : cs[41]? = some (.int .i64 (1)) := q8
    replace q9 : cs[83]? = some (.bool (false)) := q9
    replace q10 : cs[73]? = some (.bool (true)) := q10
    have v1 : IntKind.i64.wrap (((3 : Nat) : Int) + 1) = 4 := by decide
    have v2 : IntKind.i64.wrap (((3 : Nat) : Int) + 2) = 5 := by decide
    have v3 : IntKind.i64.wrap (((3 : Nat) : Int) + 3) = 6 := by decide
    have v4 : IntKind.i64.wrap (((3 : Nat) : Int) + 4) = 7 := by decide
    have v5 : IntKind.i64.wrap (((3 : Nat) : Int) + 5) = 8 := by decide
    (repeat (first | ((first | apply Eq.trans (opsI_cons ?hn ?h ?hp) | apply Eq.trans (opsI_cons0 ?hn ?h)); (case hn => apply Eq.refl); (case h => (intro κ'; (first | ((first | refine Eq.trans (opi_call (by apply Eq.refl) (by apply Eq.refl) (by apply Eq.refl)) ?_ | refine Eq.trans (opi_build_s (by apply Eq.refl) (by apply Eq.refl)) ?_ | refine Eq.trans (opi_build_a (by apply Eq.refl) (by apply Eq.refl) (by apply Eq.refl)) ?_ | refine Eq.trans (opi_buildSlice (by apply Eq.refl) (by apply Eq.refl) (by apply Eq.refl) (by decide)) ?_ | refine Eq.trans (opi_builtin (by apply Eq.refl) (by apply Eq.refl) (by apply Eq.refl)) ?_ | refine Eq.trans (opi_alloc (by apply Eq.refl) (by (first | (simp (disch := first | omega | assumption) only [nfs, Nat.reduceAdd, Nat.reduceMul, zr1, zr6, em, ew, ec, sp, q1, q2, q3, q4, q5, q6, q7, q8, q9, q10, wg, wg2, v1, v2, v3, v4, v5]; apply Eq.refl) | apply Eq.refl))) ?_); repeat (first | refine Eq.trans (opsl_cons (by intro κ'; apply Eq.refl)) ?_ | refine Eq.trans opsl_nil ?_ | refine Eq.trans (parts_cons (by intro κ'; apply Eq.refl)) ?_ | refine Eq.trans parts_nil ?_ | refine Eq.trans (fill_one (by apply Eq.refl) (by apply Eq.refl) (by intro κ'; apply Eq.refl) (by (first | apply Eq.refl | (simp [zr1, zr6, em, ew, ec, sp, q1, q2, q3, q4, q5, q6, q7, q8, q9, q10, wg, wg2, v1, v2, v3, v4, v5] <;> omega))) (by (first | (simp (disch := first | omega | assumption) only [nfs, Nat.reduceAdd, Nat.reduceMul, zr1, zr6, em, ew, ec, sp, q1, q2, q3, q4, q5, q6, q7, q8, q9, q10, wg, wg2, v1, v2, v3, v4, v5]; apply Eq.refl) | apply Eq.refl))) ?_ | refine Eq.trans fill_nil ?_ | refine Eq.trans (lend_easy (by apply Eq.refl)) ?_ | refine Eq.trans (lend_ref (by apply Eq.refl) (by apply Eq.refl) (by (first | apply Eq.refl | decide | omega | assumption | (simp [zr1, zr6, em, ew, ec, sp, q1, q2, q3, q4, q5, q6, q7, q8, q9, q10, wg, wg2, v1, v2, v3, v4, v5] <;> omega))) (by (first | (simp (disch := first | omega | assumption) only [nfs, Nat.reduceAdd, Nat.reduceMul, zr1, zr6, em, ew, ec, sp, q1, q2, q3, q4, q5, q6, q7, q8, q9, q10, wg, wg2, v1, v2, v3, v4, v5]; apply Eq.refl) | apply Eq.refl))) ?_ | refine Eq.trans (lend_msl (by apply Eq.refl) (by (first | apply Eq.refl | decide | omega | assumption | (simp [zr1, zr6, em, ew, ec, sp, q1, q2, q3, q4, q5, q6, q7, q8, q9, q10, wg, wg2, v1, v2, v3, v4, v5] <;> omega))) (by (first | (simp (disch := first | omega | assumption) only [nfs, Nat.reduceAdd, Nat.reduceMul, zr1, zr6, em, ew, ec, sp, q1, q2, q3, q4, q5, q6, q7, q8, q9, q10, wg, wg2, v1, v2, v3, v4, v5]; apply Eq.refl) | apply Eq.refl))) ?_ | refine Eq.trans lend_nil ?_ | refine Eq.trans (norm_eq (by (first | (simp (disch := first | omega | assumption) only [nfs, Nat.reduceAdd, Nat.reduceMul, zr1, zr6, em, ew, ec, sp, q1, q2, q3, q4, q5, q6, q7, q8, q9, q10, wg, wg2, v1, v2, v3, v4, v5]; apply Eq.refl) | apply Eq.refl))) ?_ | refine Eq.trans (call_k (by apply Eq.refl)) ?_ | refine Eq.trans give_none ?_ | refine Eq.trans (give_some (by apply Eq.refl) (by (first | apply Eq.refl | decide | omega | assumption | (simp [zr1, zr6, em, ew, ec, sp, q1, q2, q3, q4, q5, q6, q7, q8, q9, q10, wg, wg2, v1, v2, v3, v4, v5] <;> omega))) (by (first | (simp (disch := first | omega | assumption) only [nfs, Nat.reduceAdd, Nat.reduceMul, zr1, zr6, em, ew, ec, sp, q1, q2, q3, q4, q5, q6, q7, q8, q9, q10, wg, wg2, v1, v2, v3, v4, v5]; apply Eq.refl) | apply Eq.refl)) (by intro κ'; apply Eq.refl)) ?_ | refine Eq.trans give_nil ?_ | refine Eq.trans adopt_no ?_ | refine Eq.trans adopt_fsl ?_ | refine Eq.trans (lent_k (by apply Eq.refl) (t_law15_first _)) ?_ | refine Eq.trans (lent_k (by apply Eq.refl) (tn)) ?_ | refine Eq.trans (lent_k (by apply Eq.refl) (tc)) ?_ | refine Eq.trans (lent_k (by apply Eq.refl) (tr)) ?_)) | refine Eq.trans exI_def ?_); (repeat ((conv => lhs; whnf) <;> (first | apply Eq.refl | refine Eq.trans br_tt ?_ | refine Eq.trans br_ff ?_ | refine Eq.trans (br_t (by assumption)) ?_ | refine Eq.trans (br_f (by assumption)) ?_ | refine Eq.trans br_not ?_ | refine Eq.trans (br_yes (by (first | omega | assumption))) ?_ | refine Eq.trans (br_no (by (first | omega | assumption))) ?_ | refine Eq.trans (chk_ok (by (first | apply Eq.refl | decide | omega | assumption | (simp [zr1, zr6, em, ew, ec, sp, q1, q2, q3, q4, q5, q6, q7, q8, q9, q10, wg, wg2, v1, v2, v3, v4, v5] <;> omega)))) ?_ | refine Eq.trans (get_some (by (first | apply Eq.refl | (simp (disch := first | omega | assumption) only [nfs, Int.reduceToNat, Int.toNat_natCast, List.getElem?_drop, List.drop_drop, Nat.reduceAdd, Nat.reduceMul, Nat.zero_mul, Nat.mul_one, Nat.add_zero, zr1, zr6, em, ew, ec, sp, q1, q2, q3, q4, q5, q6, q7, q8, q9, q10, wg, wg2, v1, v2, v3, v4, v5]; apply Eq.refl) | (simp (disch := first | omega | assumption) [zr1, zr6, em, ew, ec, sp, q1, q2, q3, q4, q5, q6, q7, q8, q9, q10, wg, wg2, v1, v2, v3, v4, v5] <;> apply Eq.refl)))) ?_ | refine Eq.trans (set_eq (by (first | (simp (disch := first | omega | assumption) only [nfs, Nat.reduceAdd, Nat.reduceMul, zr1, zr6, em, ew, ec, sp, q1, q2, q3, q4, q5, q6, q7, q8, q9, q10, wg, wg2, v1, v2, v3, v4, v5]; apply Eq.refl) | apply Eq.refl))) ?_ | refine Eq.trans (take_eq (by (first | (simp (disch := first | omega | assumption) only [nfs, Nat.reduceAdd, Nat.reduceMul, zr1, zr6, em, ew, ec, sp, q1, q2, q3, q4, q5, q6, q7, q8, q9, q10, wg, wg2, v1, v2, v3, v4, v5]; apply Eq.refl) | apply Eq.refl))) ?_ | refine Eq.trans (join_eq (by (first | (simp (disch := first | omega | assumption) only [nfs, Nat.reduceAdd, Nat.reduceMul, zr1, zr6, em, ew, ec, sp, q1, q2, q3, q4, q5, q6, q7, q8, q9, q10, wg, wg2, v1, v2, v3, v4, v5]; apply Eq.refl) | apply Eq.refl))) ?_ | refine Eq.trans (str_some (by (first | apply Eq.refl | (simp (disch := first | omega | assumption) only [nfs, Int.reduceToNat, Int.toNat_natCast, List.getElem?_drop, List.drop_drop, Nat.reduceAdd, Nat.reduceMul, Nat.zero_mul, Nat.mul_one, Nat.add_zero, zr1, zr6, em, ew, ec, sp, q1, q2, q3, q4, q5, q6, q7, q8, q9, q10, wg, wg2, v1, v2, v3, v4, v5]; apply Eq.refl) | (simp (disch := first | omega | assumption) [zr1, zr6, em, ew, ec, sp, q1, q2, q3, q4, q5, q6, q7, q8, q9, q10, wg, wg2, v1, v2, v3, v4, v5] <;> apply Eq.refl)))) ?_ | refine Eq.trans (norm_eq (by (first | (simp (disch := first | omega | assumption) only [nfs, Nat.reduceAdd, Nat.reduceMul, zr1, zr6, em, ew, ec, sp, q1, q2, q3, q4, q5, q6, q7, q8, q9, q10, wg, wg2, v1, v2, v3, v4, v5]; apply Eq.refl) | apply Eq.refl))) ?_ | refine Eq.trans (nat_eq (by (first | (simp (disch := first | omega | assumption) only [Int.toNat_natCast, Int.reduceToNat, Int.toNat_zero, zr1, zr6, em, ew, ec, sp, q1, q2, q3, q4, q5, q6, q7, q8, q9, q10, wg, wg2, v1, v2, v3, v4, v5]; apply Eq.refl) | apply Eq.refl))) ?_ | refine Eq.trans (byt_eq (by (first | apply Eq.refl | (simp (disch := first | omega | assumption) only [u8s_map, zr1, zr6, em, ew, ec, sp, q1, q2, q3, q4, q5, q6, q7, q8, q9, q10, wg, wg2, v1, v2, v3, v4, v5]; apply Eq.refl) | (simp (disch := first | omega | assumption) [u8s_map, zr1, zr6, em, ew, ec, sp, q1, q2, q3, q4, q5, q6, q7, q8, q9, q10, wg, wg2, v1, v2, v3, v4, v5]; done)))) ?_))))); (try (case hp => (intro κ'; apply Eq.refl)))) | refine Eq.trans (ops_run (by apply Eq.refl) (by apply Eq.refl)) ?_ | refine Eq.trans (ops_skip (by apply Eq.refl) (by apply Eq.refl) (by apply Eq.refl) (by intro κ'; apply Eq.refl)) ?_ | refine Eq.trans (ops_skipT (by apply Eq.refl) (by apply Eq.refl) (by apply Eq.refl) (by intro κ'; apply Eq.refl)) ?_ | refine Eq.trans (ops_nil (by intro κ'; apply Eq.refl)) ?_ | refine Eq.trans ex_seq ?_ | refine Eq.trans ex_region ?_ | refine Eq.trans ex_block ?_ | refine Eq.trans (ex_cond (by intro κ'; apply Eq.refl)) ?_ | refine Eq.trans br_tt ?_ | refine Eq.trans br_ff ?_ | refine Eq.trans k_seq ?_ | refine Eq.trans k_seq_ret ?_ | refine Eq.trans k_seq_exit ?_ | refine Eq.trans k_blk ?_ | refine Eq.trans k_blk_ret ?_ | refine Eq.trans k_blk_here ?_ | refine Eq.trans (k_blk_exit (by apply Eq.refl)) ?_ | refine Eq.trans ex_ret ?_ | refine Eq.trans ex_exit ?_ | refine Eq.trans ex_skip ?_ | refine Eq.trans ex_loop ?_ | refine Eq.trans (loop_head (by intro κ'; apply Eq.refl)) ?_ | refine Eq.trans (br_yes (by (first | omega | assumption))) ?_ | refine Eq.trans (br_no (by (first | omega | assumption))) ?_ | refine Eq.trans (br_t (by assumption)) ?_ | refine Eq.trans (br_f (by assumption)) ?_ | refine Eq.trans br_not ?_ | refine Eq.trans (ops_known (by apply Eq.refl) (by apply Eq.refl) (by (first | assumption | (apply decide_eq_true; first | assumption | omega) | (apply decide_eq_false; first | assumption | omega) | exact congrArg Bool.not (by assumption))) (by intro κ'; apply Eq.refl)) ?_))
    ((first | refine Eq.trans fin_ret ?_ | refine Eq.trans fin_normal ?_); (repeat ((conv => lhs; whnf) <;> (first | refine Eq.trans (chk_ok (by (first | apply Eq.refl | decide | omega | assumption | (simp [] <;> omega)))) ?_ | refine Eq.trans (get_some (by (first | apply Eq.refl | (simp (disch := first | omega | assumption) [] <;> apply Eq.refl)))) ?_ | refine Eq.trans (take_eq (by (first | (simp (disch := first | omega | assumption) only [nfs, Nat.reduceAdd, Nat.reduceMul]; apply Eq.refl) | apply Eq.refl))) ?_))); try (conv => lhs; whnf))
    try rfl
theorem law (cs : List AV) (h : ShpAll L 5 Try.f6.params.toList cs) : ∃ lent, callω L T 6 0 cs (List.replicate Try.f6.params.toList.length none) = some (.bool true, lent) := by
  rw [Try.params6] at h
  obtain ⟨n, _, rfl, _, ha⟩ := shpAll_int rfl h
  obtain ⟨pa, _, rfl, hb⟩ := shpAll_bool rfl ha
  obtain ⟨c, _, rfl, _, hc⟩ := shpAll_int rfl hb
  obtain ⟨ho, _, rfl, hd⟩ := shpAll_bool rfl hc
  obtain rfl := shpAll_nil hd
  exact ⟨_, main n pa c ho⟩

open Go.ChangeShapes Go.WideShapes Go.ChangeAt Go.RowKit
theorem lifted (os : Os) (started : os.Started) (H : Type) (enc : TypeId × Value → H) :
    ReturnsInHanded {} Try.checked os 6 .any (Rows.attrHoldsSpec.pre6 enc Try.prog Try.f6 Rows.attrHoldsRow.domain false) (Rows.attrHoldsSpec.post enc Try.prog Try.f6 false true false false) := by
  refine law_lift (C := Try.checked) (n := 5) own started (by kernel_rfl) Try.func6 L_ok T_ok (show T 6 = some (.code a6) from rfl) laid (by kernel_rfl) rfl Try.underlying4 rfl ?_ law
    (ChangeSpec.witness6 (enc := enc) (C := Try.checked) false ⟨#[], #[.int .i64 0, .bool false, .int .i64 0, .bool false], []⟩ 8 (by kernel_rfl) (by kernel_rfl) (by kernel_rfl) (by kernel_rfl))
  intro H ds hl
  rw [Try.params6] at hl
  match ds, hl with
  | [d1, d2, d3, d4], _ => rfl

theorem over : Rows.attrHoldsRow.holds Try.pinned (OpenSpec.ofChange Rows.attrHoldsSpec) :=
  OpenClaim.holds_of_wide 6 Try.f6 rfl rfl rfl rfl rfl rfl rfl ⟨rfl, rfl, rfl, rfl, rfl⟩ rfl rfl rfl rfl rfl (by kernel_rfl) Try.func6 (by kernel_rfl)
    (of_decide_eq_true (by kernel_rfl)) (by unfold Func.isWrapper; first | (rw [if_pos (by decide +kernel)]; kernel_rfl) | (rw [if_neg (by decide +kernel)]; exact ⟨rfl, rfl⟩))
    (fun os started H enc _ => lifted os started H enc)

theorem proved : Rows.AttrHoldsSaid :=
  over
#print axioms proved
end Go.Proofs.Ytaohdpebkongmaa.attrHolds
