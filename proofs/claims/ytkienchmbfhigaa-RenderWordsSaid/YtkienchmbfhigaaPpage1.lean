/- Functions of the seat, worked off from their code: chunk page1. Written by program (tools/mkp.py) from wip/fn. -/
import Derived.Test.YtkienchmbfhigaaSimT
import Derived.Test.YtkienchmbfhigaaSimY
import Derived.Test.YtkienchmbfhigaaPbits
import Derived.Test.YtkienchmbfhigaaPones
import Derived.Test.YtkienchmbfhigaaPparity1
import Derived.Test.YtkienchmbfhigaaPsame
import Derived.Test.YtkienchmbfhigaaPnum
set_option maxRecDepth 100000
set_option maxHeartbeats 40000000
set_option linter.unusedSimpArgs false
set_option linter.unusedVariables false
namespace Go.Proofs.Ytkienchmbfhigaa
open Go Go.Sim
attribute [local irreducible] chk brX getX strX setX takeX normX fillX lendX partsX opsX callK lentK lentR giveX adoptX resX joinX headX loopX seqK blkK regK finX exOps ex eqT
attribute [local simp] setR_int setR_bool setR_zero setR_succ repl_int repl_bool List.getElem?_cons_zero List.getElem?_cons_succ List.getElem?_nil w_i64 w_u64 w_u8 bAnd_u8 bOr_u8 bXor_u8 bAndNot_u8 bShl_u8 wrap_u8_range all_plain_int all_plain_bool all_plain_app pl_bool pl_int pl_str pl_nilp pl_nsl pl_nilI pl_nilF take_map_len AV.cells TI.isAgg
def mrgE (old data : List Int) (had : Bool) (k : Nat) : Int := if oddI (data.getD k 0) = true then bAnd .u8 (data.getD k 0) 127 else if had = true then old.getD k 0 else 32
def mrg (old data : List Int) (had : Bool) : List Int := (List.range 40).map (mrgE old data had)
theorem mrg_len (old data : List Int) (had : Bool) : (mrg old data had).length = 40 := by simp [mrg]
theorem geti {i : IntKind} {xs : List Int} {k : Nat} (h : k < xs.length) (d : Int) : (xs.map (AV.int i))[k]? = some (.int i (xs.getD k d)) := by
  rw [List.getElem?_map, List.getElem?_eq_getElem h, List.getD_eq_getElem?_getD, List.getElem?_eq_getElem h]; rfl
theorem u8_getD {xs : List Int} (h : ∀ x ∈ xs, 0 ≤ x ∧ x < 256) (k : Nat) : 0 ≤ xs.getD k 0 ∧ xs.getD k 0 < 256 := by
  by_cases hk : k < xs.length
  · rw [List.getD_eq_getElem?_getD, List.getElem?_eq_getElem hk]
    exact h _ (List.getElem_mem hk)
  · rw [List.getD_eq_getElem?_getD, List.getElem?_eq_none (by omega)]
    exact ⟨by decide, by decide⟩
theorem t_Merge (tag : Nat) (old data : List Int) (had : Bool) (ho : old.length = 40) (hd : data.length < 1000000) (hb : ∀ x ∈ data, 0 ≤ x ∧ x < 256) : callω L T 28 tag [.agg (old.map (.int .u8)), .isl 1 data.length (data.map (.int .u8)), .bool had] [none, none, none] = some (.agg ((mrg old data had).map (.int .u8)), [none, none, none]) := by
  rw [call_ex (show T 28 = some (.code a28) from rfl) rfl rfl]
  have hl : (old.map (AV.int .u8)).length = 40 := by simp [ho]
  have hz : List.replicate 40 (0 : Int) = fillup (mrgE old data had) 0 40 0 := (fillup_zero _ _ _).symm
  (have fA := And.intro @hl @hz; refine gox ?_; clear fA)
  refine headX_up (fun k => ⟨[(1, .isl 1 data.length (data.map (.int .u8))), (2, .bool had), (3, .ref 3 (tag, 1) 0), (6, .ref 6 (tag, 1 + 1) 0), (7, .ref 7 (tag, 1 + 1 + 1) 0), (10, .int .i64 k)], [(3, ⟨(tag, 1), old.map (.int .u8)⟩), (6, ⟨(tag, 1 + 1), (fillup (mrgE old data had) 0 40 0).map (.int .u8)⟩), (7, ⟨(tag, 1 + 1 + 1), (fillup (mrgE old data had) 0 40 k).map (.int .u8)⟩)], 1 + 1 + 1 + 1, tag⟩) 40 _ ?_ ?_ 0 (by omega)
  · intro k hk
    have hs := fillup_set (mrgE old data had) 0 40 k
    have hfl : ((fillup (mrgE old data had) 0 40 k).map (AV.int .u8)).length = 40 := by simp [fillup]
    have hst : ∀ v, v = mrgE old data had k → setR ((fillup (mrgE old data had) 0 40 k).map (AV.int .u8)) k [.int .u8 v] = (fillup (mrgE old data had) 0 40 (k + 1)).map (.int .u8) := by
      rintro v rfl
      rw [setR_int (by simp [fillup]; omega), hs]
    have hv : mrgE old data had k = if oddI (data.getD k 0) = true then bAnd .u8 (data.getD k 0) 127 else if had = true then old.getD k 0 else 32 := rfl
    have hr := u8_getD hb k
    have tod := t_parity_Odd (tag + 1) (data.getD k 0) hr.1 hr.2
    have hold := geti (i := .u8) (show k < old.length by omega) 0
    have hdat : k < data.length → (data.map (AV.int .u8))[k]? = some (.int .u8 (data.getD k 0)) := fun h => geti h 0
    have hnod : ¬ k < data.length → data.getD k 0 = 0 := fun h => by rw [List.getD_eq_getElem?_getD, List.getElem?_eq_none (by omega)]; rfl
    rw [hv] at hst
    clear hv hs
    generalize (fillup (mrgE old data had) 0 40 (k + 1)).map (AV.int .u8) = c7' at hst ⊢
    generalize (fillup (mrgE old data had) 0 40 k).map (AV.int .u8) = c7 at hst hfl ⊢
    generalize (fillup (mrgE old data had) 0 40 0).map (AV.int .u8) = c6
    by_cases hkd : k < data.length
    · have hdat := hdat hkd
      generalize data.getD k 0 = b at *
      cases hod : oddI b
      · rw [hod] at tod
        rw [if_neg (by simp [hod])] at hst
        cases had
        · have hst := hst _ (if_neg (by simp)).symm
          (have fA := And.intro @hdat (And.intro @hold (And.intro @hst @hfl)); have c1 := tod; refine gox ?_; clear fA c1)
          refine head_eq ?_ rfl rfl
          simp [wrap_succ hk (by omega)]
        · have hst := hst _ (if_pos rfl).symm
          (have fA := And.intro @hdat (And.intro @hold (And.intro @hst @hfl)); have c1 := tod; refine gox ?_; clear fA c1)
          refine head_eq ?_ rfl rfl
          simp [wrap_succ hk (by omega)]
      · rw [hod] at tod
        rw [if_pos hod] at hst
        have hst := hst _ rfl
        (have fA := And.intro @hdat (And.intro @hold (And.intro @hst @hfl)); have c1 := tod; refine gox ?_; clear fA c1)
        refine head_eq ?_ rfl rfl
        simp [wrap_succ hk (by omega)]
    · have hnod := hnod hkd
      rw [hnod] at tod hst
      rw [show oddI 0 = false by decide] at tod
      rw [if_neg (by decide)] at hst
      cases had
      · have hst := hst _ (if_neg (by simp)).symm
        (have fA := And.intro @hold (And.intro @hst @hfl); have c1 := tod; refine gox ?_; clear fA c1)
        refine head_eq ?_ rfl rfl
        simp [wrap_succ hk (by omega)]
      · have hst := hst _ (if_pos rfl).symm
        (have fA := And.intro @hold (And.intro @hst @hfl); have c1 := tod; refine gox ?_; clear fA c1)
        refine head_eq ?_ rfl rfl
        simp [wrap_succ hk (by omega)]
  · have hf : fillup (mrgE old data had) 0 40 40 = mrg old data had := fillup_full (mrgE old data had) 0 40
    rw [hf]
    have hl2 : ((mrg old data had).map (AV.int .u8)).length = 40 := by simp [mrg]
    have hp : ((mrg old data had).map (AV.int .u8)).all AV.plain = true := by simp [AV.plain]
    have htk : ((mrg old data had).map (AV.int .u8)).take 40 = (mrg old data had).map (AV.int .u8) := List.take_of_length_le (by omega)
    have hst : ∀ cs : List AV, cs.length = 40 → setR cs 0 ((mrg old data had).map (AV.int .u8)) = (mrg old data had).map (AV.int .u8) := fun cs h => setR_all (by omega)
    have hz0 : ((fillup (mrgE old data had) 0 40 0).map (AV.int .u8)).length = 40 := by simp [fillup]
    have hst := hst _ hz0
    generalize (mrg old data had).map (AV.int .u8) = cm at *
    generalize (fillup (mrgE old data had) 0 40 0).map (AV.int .u8) = c6 at *
    (have fA := And.intro @htk (And.intro @hl2 (And.intro @hst @hz0)); refine gox ?_; clear fA)
    (have fA := And.intro @htk (And.intro @hl2 (And.intro @hst (And.intro @hp @hz0))); refine finx ?_; clear fA; try with_reducible rfl)
end Go.Proofs.Ytkienchmbfhigaa
