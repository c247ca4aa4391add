/- ParityTexts: for any bytes and places: text made odd is read as it is, and each byte that is turned in one bit is told. No condition. -/
import Derived.Test.YtifahndnjihfoaaRows
import Derived.Test.YtifahndnjihfoaaSimT
import Derived.Test.YtifahndnjihfoaaSimFacts
import Derived.Test.YtifahndnjihfoaaPparity1
set_option maxRecDepth 100000
set_option maxHeartbeats 4000000
set_option linter.unusedSimpArgs false
set_option linter.unusedVariables false
namespace Go.Proofs.Ytifahndnjihfoaa.parityTexts
open Go Go.Sim
attribute [local congr] ite_congr go_congr goOps_congr stepK_congr ret_congr headK_congr condK_congr guardK_congr
attribute [local simp] go_skip go_ret go_exit go_region go_seq go_cond go_block go_loop ret_nil ret_seq ret_seq_exit ret_seq_ret ret_blk ret_blk_ret ret_blk_exit ret_loop ret_loop_exit ret_loop_ret loopK_head goOps_nil goOps_cons goOps_guard stepK_some stepK_none stepK_ite guardK_true guardK_false guardK_bool condK_bool fin
attribute [local simp] runs denOp operand aget aput adel putD tidy trim getAll freezeAll freezeOne lentOut oneOrTup argEnv lentHeap ofConst ofScalar aCall lendAll lend lentApart lentFree readFree giveBack adopt aBin aUn L Ls mkA getRes asInt? bnd okRead okStore Ann.storeAt lendSize firstRegion List.find?_cons List.find?_nil
attribute [local simp] aInt_add aInt_sub aInt_mul aInt_quo aInt_rem aInt_and aInt_or aInt_xor aInt_andNot aInt_eql aInt_neq aInt_lss aInt_leq aInt_gtr aInt_geq aShift_shl aShift_shr
attribute [local simp] bAnd_u8 bOr_u8 bXor_u8 bAndNot_u8 bShl_u8 wrap_u8_range
attribute [local simp] aBuiltin slLen slCells aAppend newBlk blkOf putCells rdCells TI.isAgg aLoad aStore setR cutA aSlice aStrSlice fillA parts slElem fieldOf freezeSl freezeAgg AV.cells AV.solid AV.isRef repl
attribute [local simp] w_i64 w_u64 w_u8 all_plain_int all_plain_bool all_plain_app pl_bool pl_int pl_str pl_nilp pl_nsl pl_nilI pl_nilF pl_msl pl_ref pl_isl pl_fsl pl_agg take_map_len

/-- What the bytes are behind some turns: those of the places that are told are turned in one bit, the others are as made. -/
structure InvI (bs ls : List Int) (bl : List Int) (c : Nat) : Prop where
  len : ls.length = bs.length
  cnt : bl.length = c
  rng : ∀ x ∈ ls, 0 ≤ x ∧ x < 256
  out : ∀ j (h : j < bs.length), (j : Int) ∉ bl → ls[j]? = some (makeOddI bs[j])
  inn : ∀ j (h : j < bs.length), (j : Int) ∈ bl → ∃ y, ls[j]? = some y ∧ oddI y = false
def Inv (bs : List Int) (l bad : List AV) (c : Nat) : Prop := ∃ ls bl, l = ls.map (.int .u8) ∧ bad = bl.map (.int .i64) ∧ InvI bs ls bl c
theorem inv0 (bs : List Int) : Inv bs (bs.map fun b => .int .u8 (makeOddI b)) [] 0 :=
  ⟨bs.map makeOddI, [], by simp, rfl, by simp, rfl, by simp [makeOddI_range], fun j h _ => by simp [h], by simp⟩
theorem odd_made {x : Int} (h0 : 0 ≤ x) (h1 : x < 256) : oddI (makeOddI x) = true := byteB_get (p := fun x => oddI (makeOddI x)) (by decide +kernel) h0 h1
theorem made_and {x : Int} (h0 : 0 ≤ x) (h1 : x < 256) : bAnd .u8 (makeOddI x) 127 = bAnd .u8 x 127 := by
  simpa using byteB_get (p := fun x => bAnd .u8 (makeOddI x) 127 == bAnd .u8 x 127) (by decide +kernel) h0 h1
theorem inv_more {bs ls bl : List Int} (hb : ∀ x ∈ bs, 0 ≤ x ∧ x < 256) (hI : InvI bs ls bl bl.length) {j : Nat} (hj : j < bs.length) (hin : ¬ (j : Int) ∈ bl) {q : Nat} (hq : q < 8) (hjl : j < ls.length) :
    InvI bs (ls.set j (bXor .u8 ls[j] (bShl .u8 1 q))) (bl ++ [(j : Int)]) (bl.length + 1) := by
  have hbj := hb bs[j] (List.getElem_mem hj)
  refine ⟨by simp [hI.len], by simp, fun x hx => ?_, fun i hi hn => ?_, fun i hi hn => ?_⟩
  · rcases List.mem_or_eq_of_mem_set hx with h | rfl
    · exact hI.rng x h
    · exact bXor_u8 _ _
  · simp only [List.mem_append, List.mem_singleton, not_or] at hn
    rw [List.getElem?_set_ne (by omega)]
    exact hI.out i hi hn.1
  · by_cases e : i = j
    · subst e
      refine ⟨_, by rw [List.getElem?_set_self (by rw [hI.len]; exact hj)], ?_⟩
      have := hI.out i hi hin
      rw [List.getElem?_eq_getElem hjl] at this
      simp only [Option.some.injEq] at this
      rw [this, odd_flip (makeOddI_range _).1 (makeOddI_range _).2 hq, odd_made hbj.1 hbj.2]
      rfl
    · simp only [List.mem_append, List.mem_singleton] at hn
      rw [List.getElem?_set_ne (by omega)]
      exact hI.inn i hi (hn.resolve_right (by omega))
theorem main (bs : List Int) (hb : ∀ x ∈ bs, 0 ≤ x ∧ x < 256) (at' : List Int) (ha : ∀ x ∈ at', -9223372036854775808 ≤ x ∧ x ≤ 9223372036854775807) : callω L T 5 0 [.isl 1 bs.length (bs.map (.int .u8)), .isl 1 at'.length (at'.map (.int .i64))] [none, none] = some (.bool true, [none, none]) := by
  rw [call_go (show T 5 = some (.code a5) from rfl) rfl rfl]
  by_cases h1 : (200 : Int) < bs.length
  · simp [a5, Try.f5, t_law1_first, h1]
  by_cases h2 : (20 : Int) < at'.length
  · simp [a5, Try.f5, t_law1_first, h1, h2]
  simp [a5, Try.f5, t_law1_first, h1, h2]
  have hn : bs.length ≤ 200 := by omega
  have hm : at'.length ≤ 20 := by omega
  rcases Nat.eq_zero_or_pos bs.length with h0 | h0
  · obtain rfl := List.eq_nil_of_length_eq_zero h0
    have tx := t_parity_Text 1 [] (by simp) (by simp)
    simp at tx
    rcases Nat.eq_zero_or_pos at'.length with h3 | h3
    · simp [headK, h3, tx]
    · have h4 : (0 : Int) < at'.length := by omega
      simp [headK, h3, tx]
  refine headK_ind (X := Nat × List AV × Nat × Nat) (fun x => { env := [(0, .isl 1 bs.length (bs.map (.int .u8))), (1, .isl 1 at'.length (at'.map (.int .i64))), (5, .bool true), (6, .msl 6 (0, x.2.2.1) 1 0 x.1), (7, .msl 7 (0, 2) 1 0 0), (8, .int .i64 x.1)], heap := [(6, { stamp := (0, x.2.2.1), cells := x.2.1 }), (7, { stamp := (0, 2), cells := [] })], next := x.2.2.2, tag := 0 }) (fun _ => some (.bool true, [none, none])) (fun x => bs.length - x.1) (fun x => x.1 ≤ bs.length ∧ x.2.1 = (bs.take x.1).map fun b => .int .u8 (makeOddI b)) ?_ (0, [], 1, 3) (by simp)
  rintro ⟨k, l, g, nx⟩ ⟨hk, hl⟩ ih
  simp only at hk hl ih ⊢
  subst hl
  rcases Nat.lt_or_ge k bs.length with h | h
  · have h3 : k + 1 ≤ 140737488355328 := by omega
    simp [h, wrap_succ h (by omega), t_parity_MakeOdd, h3, Nat.min_eq_left hk]
    refine ih (k + 1, _, _, _) ⟨by simp only; omega, ?_⟩ (by simp only; omega)
    exact (take_map_snoc h _).symm ▸ by simp
  · have : k = bs.length := by omega
    subst this
    clear ih
    simp
    refine headK_ind (X := Nat × List AV × List AV × Nat × Nat × Nat × Nat) (fun x => { env := [(0, .isl 1 bs.length (bs.map (.int .u8))), (1, .isl 1 at'.length (at'.map (.int .i64))), (5, .bool true), (6, .msl 6 (0, x.2.2.2.1) 1 0 bs.length), (7, .msl 7 (0, x.2.2.2.2.1) 1 0 x.2.2.2.2.2.1), (9, .int .i64 x.1)], heap := [(6, { stamp := (0, x.2.2.2.1), cells := x.2.1 }), (7, { stamp := (0, x.2.2.2.2.1), cells := x.2.2.1 })], next := x.2.2.2.2.2.2, tag := 0 }) (fun _ => some (.bool true, [none, none])) (fun x => at'.length - x.1) (fun x => x.1 ≤ at'.length ∧ x.2.2.2.2.2.1 ≤ x.1 ∧ Inv bs x.2.1 x.2.2.1 x.2.2.2.2.2.1) ?_ (0, _, [], g, 2, 0, nx) ⟨by simp, by simp, inv0 bs⟩
    rintro ⟨k, l, bad, g, g', c, nx⟩ ⟨hk, hck, hI⟩ ih
    simp only at hk hck hI ih ⊢
    obtain ⟨ls, bl, rfl, rfl, hI⟩ := hI
    have hc := hI.cnt
    subst hc
    rcases Nat.lt_or_ge k at'.length with h | h
    · have hpos : (0 : Int) < bs.length := by omega
      have hr := ha at'[k] (List.getElem_mem h)
      have hne : bs ≠ [] := by intro e; rw [e] at h0; simp at h0
      have hst : ∀ (z : Int), 0 ≤ z → ∃ j : Nat, z.tmod bs.length = j ∧ j < bs.length := by
        intro z hz
        obtain ⟨v, rfl⟩ : ∃ v : Nat, z = v := ⟨z.toNat, by omega⟩
        exact ⟨v % bs.length, by rw [← Int.ofNat_tmod], Nat.mod_lt _ h0⟩
      obtain ⟨j, hj, e1, e2⟩ : ∃ j : Nat, j < bs.length ∧ (at'[k] < 0 → (IntKind.i64.wrap (-IntKind.i64.wrap (at'[k] + 1))).tmod bs.length = j) ∧ (¬ at'[k] < 0 → at'[k].tmod bs.length = j) := by
        by_cases hneg : at'[k] < 0
        · obtain ⟨j, q1, q2⟩ := hst (-(at'[k] + 1)) (by omega)
          refine ⟨j, q2, fun _ => ?_, fun x => (x hneg).elim⟩
          rw [w_i64 (x := at'[k] + 1) (by omega) (by omega), w_i64 (by omega) (by omega)]
          exact q1
        · obtain ⟨j, q1, q2⟩ := hst at'[k] (by omega)
          exact ⟨j, q2, fun x => (hneg x).elim, fun _ => q1⟩
      have hHas := t_Has 1 bl j (by omega)
      obtain ⟨q, hq, hq7⟩ := bAnd_i64_le k (m := 7) (by omega)
      replace hq : bAnd .i64 k 7 = q := hq
      have hq0 : ¬ (q : Int) < 0 := by omega
      have hqw : IntKind.u64.wrap (q : Int) = q := w_u64 (by omega) (by omega)
      have hjl : j < ls.length := by rw [hI.len]; exact hj
      have hj1 : j + 1 ≤ bs.length := hj
      have h8 : (bl.length + 1) * 8 ≤ 140737488355328 := by omega
      by_cases hneg : at'[k] < 0
      · have e1 := e1 hneg
        by_cases hin : (j : Int) ∈ bl
        · simp [h, hneg, h0, hne, e1, hHas, hin, wrap_succ h (by omega)]
          exact ih (k + 1, _, _, _, _, _, _) ⟨by simp only; omega, by simp only; omega, ls, bl, rfl, rfl, hI⟩ (by simp only; omega)
        · simp [h, hneg, h0, hne, e1, hHas, hin, wrap_succ h (by omega), hI.len, hj, hj1, hq, hq0, hqw, h8]
          refine ih (k + 1, _, _, _, _, _, _) ⟨by simp only; omega, by simp only; omega, _, _, ?_, ?_, inv_more hb hI hj hin (q := q) (by omega) hjl⟩ (by simp only; omega)
          · rw [List.map_set]; exact set_split (by simp; omega) _
          · simp
      · have e2 := e2 hneg
        by_cases hin : (j : Int) ∈ bl
        · simp [h, hneg, h0, hne, e2, hHas, hin, wrap_succ h (by omega)]
          exact ih (k + 1, _, _, _, _, _, _) ⟨by simp only; omega, by simp only; omega, ls, bl, rfl, rfl, hI⟩ (by simp only; omega)
        · simp [h, hneg, h0, hne, e2, hHas, hin, wrap_succ h (by omega), hI.len, hj, hj1, hq, hq0, hqw, h8]
          refine ih (k + 1, _, _, _, _, _, _) ⟨by simp only; omega, by simp only; omega, _, _, ?_, ?_, inv_more hb hI hj hin (q := q) (by omega) hjl⟩ (by simp only; omega)
          · rw [List.map_set]; exact set_split (by simp; omega) _
          · simp
    · have : k = at'.length := by omega
      subst this
      clear ih
      have hT := t_parity_Text 1 ls hI.rng (by rw [hI.len]; omega)
      rw [hI.len] at hT
      have htk : (ls.map (AV.int .u8)).take bs.length = ls.map (.int .u8) := by rw [← hI.len, take_map_len]
      simp [hT, htk, hI.len]
      refine headK_up (fun k => { env := [(0, .isl 1 bs.length (bs.map (.int .u8))), (5, .bool true), (7, .msl 7 (0, g') 1 0 bl.length), (11, .fsl 1 bs.length (ls.map fun n => .int .u8 (bAnd .u8 n 127))), (12, .fsl 1 bs.length (ls.map fun n => .bool (oddI n))), (13, .int .i64 (k : Int))], heap := [(7, { stamp := (0, g'), cells := bl.map (.int .i64) })], next := nx, tag := 0 }) bs.length _ ?_ ?_ 0 (by omega)
      · intro i hi
        have hil : i < ls.length := by rw [hI.len]; exact hi
        have hHas := t_Has 1 bl i (by omega)
        have hbi := hb bs[i] (List.getElem_mem hi)
        by_cases hin : (i : Int) ∈ bl
        · obtain ⟨y, y1, y2⟩ := hI.inn i hi hin
          rw [List.getElem?_eq_getElem hil] at y1
          simp only [Option.some.injEq] at y1
          rw [← y1] at y2
          simp [hi, hil, hHas, hin, y2, wrap_succ hi (by omega)]
        · have y1 := hI.out i hi hin
          rw [List.getElem?_eq_getElem hil] at y1
          simp only [Option.some.injEq] at y1
          have y2 : oddI ls[i] = true := by rw [y1]; exact odd_made hbi.1 hbi.2
          have y3 : bAnd .u8 ls[i] 127 = bAnd .u8 bs[i] 127 := by rw [y1]; exact made_and hbi.1 hbi.2
          simp [hi, hil, hHas, hin, y2, y3, wrap_succ hi (by omega)]
      · simp
theorem law (cs : List AV) (h : ShpAll L 5 Try.f5.params.toList cs) : ∃ lent, callω L T 5 0 cs (List.replicate Try.f5.params.toList.length none) = some (.bool true, lent) := by
  rw [Try.params5] at h
  obtain ⟨parts, _, rfl, _, hp, h⟩ := shpAll_slice rfl rfl h
  obtain ⟨parts2, _, rfl, _, hp2, h⟩ := shpAll_slice rfl rfl h
  obtain rfl := shpAll_nil h
  obtain ⟨xs, e1, e2, e3⟩ := ints_of_parts (n := 3) rfl parts hp
  obtain ⟨ys, e4, e5, e6⟩ := ints_of_parts (n := 3) rfl parts2 hp2
  rw [e1, ← e2, e4, ← e5]
  exact ⟨_, main xs (fun x hx => by obtain ⟨m, rfl, hm⟩ := u8_wf (e3 x hx); omega) ys (fun x hx => i64_wf (e6 x hx))⟩

open Go.ChangeShapes Go.WideShapes Go.ChangeAt Go.RowKit
theorem lifted (os : Os) (started : os.Started) (H : Type) (enc : TypeId × Value → H) :
    ReturnsInHanded {} Try.checked os 5 .any (Rows.parityTextsSpec.pre6 enc Try.prog Try.f5 Rows.parityTextsRow.domain false) (Rows.parityTextsSpec.post enc Try.prog Try.f5 false true false false) := by
  refine law_lift (C := Try.checked) (n := 5) own started (by kernel_rfl) Try.func5 L_ok T_ok (show T 5 = some (.code a5) from rfl) laid (by kernel_rfl) rfl Try.underlying4 rfl ?_ law
    (ChangeSpec.witness6 (enc := enc) (C := Try.checked) false ⟨#[], #[.slice none 0 0, .slice none 0 0], []⟩ 8 (by kernel_rfl) (by kernel_rfl) (by kernel_rfl) (by kernel_rfl))
  intro H ds hl
  rw [Try.params5] at hl
  match ds, hl with
  | [d1, d2], _ => rfl

theorem over : Rows.parityTextsRow.holds Try.pinned (OpenSpec.ofChange Rows.parityTextsSpec) :=
  OpenClaim.holds_of_wide 5 Try.f5 rfl rfl rfl rfl rfl rfl rfl ⟨rfl, rfl, rfl, rfl, rfl⟩ rfl rfl rfl rfl rfl (by kernel_rfl) Try.func5 (by kernel_rfl)
    (of_decide_eq_true (by kernel_rfl)) (by unfold Func.isWrapper; first | (rw [if_pos (by decide +kernel)]; kernel_rfl) | (rw [if_neg (by decide +kernel)]; exact ⟨rfl, rfl⟩))
    (fun os started H enc _ => lifted os started H enc)

theorem proved : Rows.ParityTextsSaid :=
  over
#print axioms proved
end Go.Proofs.Ytifahndnjihfoaa.parityTexts
