/- Functions of the seat, worked off from their code: chunk attr3. Written by program (tools/mkp.py) from wip/fn. -/
import Derived.Test.YtkienchmbfhigaaSimT
import Derived.Test.YtkienchmbfhigaaSimY
import Derived.Test.YtkienchmbfhigaaPattr2
set_option maxRecDepth 100000
set_option maxHeartbeats 40000000
set_option linter.unusedSimpArgs false
set_option linter.unusedVariables false
namespace Go.Proofs.Ytkienchmbfhigaa
open Go Go.Sim
attribute [local irreducible] chk brX getX strX setX takeX normX fillX lendX partsX opsX callK lentK lentR giveX adoptX resX joinX headX loopX seqK blkK regK finX exOps ex eqT
attribute [local simp] setR_int setR_bool setR_zero setR_succ repl_int repl_bool List.getElem?_cons_zero List.getElem?_cons_succ List.getElem?_nil w_i64 w_u64 w_u8 bAnd_u8 bOr_u8 bXor_u8 bAndNot_u8 bShl_u8 wrap_u8_range all_plain_int all_plain_bool all_plain_app pl_bool pl_int pl_str pl_nilp pl_nsl pl_nilI pl_nilF take_map_len AV.cells TI.isAgg
attribute [local simp] Cell.flen Cell.rd Cell.g0 Cell.g1 Cell.g2 Cell.g3 Cell.g4 Cell.g5 Cell.g6 Cell.g7 Cell.g8 Cell.g9 Cell.put Cell.pute Cell.s0 Cell.s1 Cell.s2 Cell.s3 Cell.s4 Cell.s5 Cell.s6 Cell.s7 Cell.s8 Cell.s9 Cell.zero Cell.enc At.flen At.rd At.g0 At.g1 At.g2 At.g3 At.g4 At.g5 At.g6 At.g7 At.g8 At.g9 At.g10 At.put At.pute At.s0 At.s1 At.s2 At.s3 At.s4 At.s5 At.s6 At.s7 At.s8 At.s9 At.s10 At.zero At.enc

theorem t_Row (tag : Nat) (bs : List Int) (o : Int) (hb : bs.length < 1000000) : callω L T 32 tag [.isl 1 bs.length (bs.map (.int .u8)), .int .i64 o] [none, none] = some (.tup [.agg (flat Cell.enc (rowL bs o 40)), .bool (tallF bs o 40)], [none, none]) := by
  rw [call_ex (show T 32 = some (.code a32) from rfl) rfl rfl]
  have hz := Cell.zero 40
  unfold Cell.none at hz
  have hr := rowL_zero bs o
  unfold Cell.none at hr
  rw [← hr] at hz
  (have fA := And.intro @At.enc.eq_1 @hz; have c1 := fun x1 => t_attr_Start x1; refine gox ?_; clear fA c1)
  refine headX_up (fun k => ⟨[(0, .isl 1 bs.length (bs.map (.int .u8))), (1, .int .i64 o), (4, .ref 4 (tag, 1) 0), (6, .ref 6 (tag, 1 + 1) 0), (7, .ref 7 (tag, 1 + 1 + 1) 0), (8, .bool (tallF bs o k)), (12, .int .i64 k)], [(4, ⟨(tag, 1), flat Cell.enc (rowL bs o 0)⟩), (6, ⟨(tag, 1 + 1), flat Cell.enc (rowL bs o k)⟩), (7, ⟨(tag, 1 + 1 + 1), (stF bs o k).enc⟩)], 1 + 1 + 1 + 1, tag⟩) 40 _ ?_ ?_ 0 (by omega)
  · intro k hk
    have es : stF bs o (k + 1) = (stepF (stF bs o k) (bs.getD k 32) o).1 := rfl
    have ec : (stepF (stF bs o k) (bs.getD k 32) o).2 = ceF bs o k := rfl
    have et : tallF bs o (k + 1) = (tallF bs o k || decide ((ceF bs o k).high = 1)) := rfl
    have ts := t_Step (tag + 1) (stF bs o k) (bs.getD k 32) o
    rw [ec] at ts
    have ex := rowL_set bs o hk
    have hxl := rowL_len bs o k
    rw [es, et, ← ex]
    generalize rowL bs o k = xs at hxl ⊢
    generalize ceF bs o k = ce at ts ⊢
    generalize (stepF (stF bs o k) (bs.getD k 32) o).1 = u at ts ⊢
    generalize stF bs o k = s at ts ⊢
    generalize tallF bs o k = tl
    have g8 : (flat Cell.enc (xs.set k ce))[k * 10 + 8]? = some (.int .i64 ce.high) := by rw [Cell.g8 (by simp; omega)]; simp
    by_cases hkb : k < bs.length
    · have eb : bs.getD k 32 = bs[k] := by rw [List.getD_eq_getElem?_getD, List.getElem?_eq_getElem hkb]; rfl
      rw [eb] at ts
      cases tl
      · by_cases hh : ce.high = 1
        · (have fA := And.intro @At.enc.eq_1 (And.intro @Cell.pute @g8); have c1 := ts; refine gox ?_; clear fA c1)
          refine head_eq ?_ rfl rfl
          simp [wrap_succ hk (by omega), hh]
        · (have fA := And.intro @At.enc.eq_1 (And.intro @Cell.pute @g8); have c1 := ts; refine gox ?_; clear fA c1)
          refine head_eq ?_ rfl rfl
          simp [wrap_succ hk (by omega), hh]
      · (have fA := And.intro @At.enc.eq_1 (And.intro @Cell.pute @g8); have c1 := ts; refine gox ?_; clear fA c1)
        refine head_eq ?_ rfl rfl
        simp [wrap_succ hk (by omega)]
    · have eb : bs.getD k 32 = 32 := by rw [List.getD_eq_getElem?_getD, List.getElem?_eq_none (by omega)]; rfl
      rw [eb] at ts
      cases tl
      · by_cases hh : ce.high = 1
        · (have fA := And.intro @At.enc.eq_1 (And.intro @Cell.pute @g8); have c1 := ts; refine gox ?_; clear fA c1)
          refine head_eq ?_ rfl rfl
          simp [wrap_succ hk (by omega), hh]
        · (have fA := And.intro @At.enc.eq_1 (And.intro @Cell.pute @g8); have c1 := ts; refine gox ?_; clear fA c1)
          refine head_eq ?_ rfl rfl
          simp [wrap_succ hk (by omega), hh]
      · (have fA := And.intro @At.enc.eq_1 (And.intro @Cell.pute @g8); have c1 := ts; refine gox ?_; clear fA c1)
        refine head_eq ?_ rfl rfl
        simp [wrap_succ hk (by omega)]
  · have hpl := Cell.pl (rowL bs o 40)
    have hfl := Cell.flen (rowL bs o 40)
    have hxl := rowL_len bs o 40
    have hxl0 := rowL_len bs o 0
    have hfl0 := Cell.flen (rowL bs o 0)
    rw [hxl] at hfl
    rw [hxl0] at hfl0
    generalize flat Cell.enc (rowL bs o 40) = cs at hpl hfl ⊢
    generalize flat Cell.enc (rowL bs o 0) = ds at hfl0 ⊢
    have sr : setR ds 0 cs = cs := by unfold setR; rw [List.take_zero, List.nil_append, List.drop_eq_nil_of_le (by omega), List.append_nil]
    have st : cs.take 400 = cs := List.take_of_length_le (by omega)
    (have fA := And.intro @sr (And.intro @st (And.intro @hfl @hfl0)); refine gox ?_; clear fA)
    (have fA := And.intro @sr (And.intro @st (And.intro @hfl (And.intro @hfl0 @hpl))); refine finx ?_; clear fA; try with_reducible rfl)
    try rfl
theorem t_Row_nil (tag : Nat) (o : Int) : callω L T 32 tag [.nsl, .int .i64 o] [none, none] = some (.tup [.agg (flat Cell.enc (rowL [] o 40)), .bool (tallF [] o 40)], [none, none]) := by
  rw [call_ex (show T 32 = some (.code a32) from rfl) rfl rfl]
  have hz := Cell.zero 40
  unfold Cell.none at hz
  have hr := rowL_zero [] o
  unfold Cell.none at hr
  rw [← hr] at hz
  (have fA := And.intro @At.enc.eq_1 @hz; have c1 := fun x1 => t_attr_Start x1; refine gox ?_; clear fA c1)
  refine headX_up (fun k => ⟨[(0, .nsl), (1, .int .i64 o), (4, .ref 4 (tag, 1) 0), (6, .ref 6 (tag, 1 + 1) 0), (7, .ref 7 (tag, 1 + 1 + 1) 0), (8, .bool (tallF [] o k)), (12, .int .i64 k)], [(4, ⟨(tag, 1), flat Cell.enc (rowL [] o 0)⟩), (6, ⟨(tag, 1 + 1), flat Cell.enc (rowL [] o k)⟩), (7, ⟨(tag, 1 + 1 + 1), (stF [] o k).enc⟩)], 1 + 1 + 1 + 1, tag⟩) 40 _ ?_ ?_ 0 (by omega)
  · intro k hk
    have es : stF [] o (k + 1) = (stepF (stF [] o k) (([] : List Int).getD k 32) o).1 := rfl
    have ec : (stepF (stF [] o k) (([] : List Int).getD k 32) o).2 = ceF [] o k := rfl
    have et : tallF [] o (k + 1) = (tallF [] o k || decide ((ceF [] o k).high = 1)) := rfl
    have ts := t_Step (tag + 1) (stF [] o k) (([] : List Int).getD k 32) o
    rw [ec] at ts
    have ex := rowL_set [] o hk
    have hxl := rowL_len [] o k
    rw [es, et, ← ex]
    generalize rowL [] o k = xs at hxl ⊢
    generalize ceF [] o k = ce at ts ⊢
    generalize (stepF (stF [] o k) (([] : List Int).getD k 32) o).1 = u at ts ⊢
    generalize stF [] o k = s at ts ⊢
    generalize tallF [] o k = tl
    have g8 : (flat Cell.enc (xs.set k ce))[k * 10 + 8]? = some (.int .i64 ce.high) := by rw [Cell.g8 (by simp; omega)]; simp
    have eb : ([] : List Int).getD k 32 = 32 := rfl
    rw [eb] at ts
    cases tl
    · by_cases hh : ce.high = 1
      · (have fA := And.intro @At.enc.eq_1 (And.intro @Cell.pute @g8); have c1 := ts; refine gox ?_; clear fA c1)
        refine head_eq ?_ rfl rfl
        simp [wrap_succ hk (by omega), hh]
      · (have fA := And.intro @At.enc.eq_1 (And.intro @Cell.pute @g8); have c1 := ts; refine gox ?_; clear fA c1)
        refine head_eq ?_ rfl rfl
        simp [wrap_succ hk (by omega), hh]
    · (have fA := And.intro @At.enc.eq_1 (And.intro @Cell.pute @g8); have c1 := ts; refine gox ?_; clear fA c1)
      refine head_eq ?_ rfl rfl
      simp [wrap_succ hk (by omega)]
  · have hpl := Cell.pl (rowL [] o 40)
    have hfl := Cell.flen (rowL [] o 40)
    have hxl := rowL_len [] o 40
    have hxl0 := rowL_len [] o 0
    have hfl0 := Cell.flen (rowL [] o 0)
    rw [hxl] at hfl
    rw [hxl0] at hfl0
    generalize flat Cell.enc (rowL [] o 40) = cs at hpl hfl ⊢
    generalize flat Cell.enc (rowL [] o 0) = ds at hfl0 ⊢
    have sr : setR ds 0 cs = cs := by unfold setR; rw [List.take_zero, List.nil_append, List.drop_eq_nil_of_le (by omega), List.append_nil]
    have st : cs.take 400 = cs := List.take_of_length_le (by omega)
    (have fA := And.intro @sr (And.intro @st (And.intro @hfl @hfl0)); refine gox ?_; clear fA)
    (have fA := And.intro @sr (And.intro @st (And.intro @hfl (And.intro @hfl0 @hpl))); refine finx ?_; clear fA; try with_reducible rfl)
    try rfl

end Go.Proofs.Ytkienchmbfhigaa
