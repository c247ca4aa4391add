/- MosaicDots: the dots are the pattern's bits, row by row, all together are it. No condition. -/
import Derived.Test.YtpnkngnpdfhbgaaRows
import Derived.Test.YtpnkngnpdfhbgaaSimT
import Derived.Test.YtpnkngnpdfhbgaaSimFacts
import Derived.Test.YtpnkngnpdfhbgaaPmosaic
set_option maxRecDepth 100000
set_option maxHeartbeats 4000000
set_option linter.unusedSimpArgs false
set_option linter.unusedVariables false
namespace Go.Proofs.Ytpnkngnpdfhbgaa.mosaicDots
open Go Go.Sim
attribute [local congr] ite_congr go_congr goOps_congr stepK_congr ret_congr headK_congr condK_congr guardK_congr
attribute [local simp] go_skip go_ret go_exit go_region go_seq go_cond go_block go_loop ret_nil ret_seq ret_seq_exit ret_seq_ret ret_blk ret_blk_ret ret_blk_exit ret_loop ret_loop_exit ret_loop_ret loopK_head goOps_nil goOps_cons goOps_guard stepK_some stepK_none stepK_ite guardK_true guardK_false guardK_bool condK_bool fin
attribute [local simp] runs denOp operand aget aput adel putD tidy trim getAll freezeAll freezeOne lentOut oneOrTup argEnv lentHeap ofConst ofScalar aCall lendAll lend lentApart lentFree readFree giveBack adopt aBin aUn L Ls mkA getRes asInt? bnd okRead okStore Ann.storeAt lendSize firstRegion List.find?_cons List.find?_nil
attribute [local simp] aInt_add aInt_sub aInt_mul aInt_quo aInt_rem aInt_and aInt_or aInt_xor aInt_andNot aInt_eql aInt_neq aInt_lss aInt_leq aInt_gtr aInt_geq aShift_shl aShift_shr
attribute [local simp] bAnd_u8 bOr_u8 bXor_u8 bAndNot_u8 bShl_u8 wrap_u8_range
attribute [local simp] aBuiltin slLen slCells aAppend newBlk blkOf putCells rdCells TI.isAgg aLoad aStore setR cutA aSlice aStrSlice fillA parts slElem fieldOf freezeSl freezeAgg AV.cells AV.solid AV.isRef repl
attribute [local simp] w_i64 w_u64 w_u8 all_plain_int all_plain_bool all_plain_app pl_bool pl_int pl_str pl_nilp pl_nsl pl_nilI pl_nilF pl_msl pl_ref pl_isl pl_fsl pl_agg take_map_len nat_not_neg int_beq int_bne Int.natCast_inj all_pc_bool all_pc_int all_take_bool all_drop_bool all_take_int all_drop_int

/-- The pattern's lowest bits. -/
def low (p : Int) (k : Nat) : Int := p % ((2 ^ k : Nat) : Int)
theorem or_new : ∀ k : Nat, k < 6 → ∀ s : Nat, s < 2 ^ k → bOr .i64 s (bShl .i64 1 k) = (s : Int) + ((2 ^ k : Nat) : Int) := by decide +kernel
theorem low_step (p : Int) (k : Nat) (hk : k < 6) : (if dotB p k = true then bOr .i64 (low p k) (bShl .i64 1 k) else low p k) = low p (k + 1) := by
  have hp : 0 < 2 ^ k := Nat.two_pow_pos k
  obtain ⟨s, hs, e⟩ : ∃ s : Nat, s < 2 ^ k ∧ low p k = s := by
    have h1 : 0 ≤ low p k := Int.emod_nonneg _ (by omega)
    have h2 : low p k < ((2 ^ k : Nat) : Int) := Int.emod_lt_of_pos _ (by omega)
    exact ⟨(low p k).toNat, by omega, by omega⟩
  have hd : p / ((2 ^ k : Nat) : Int) % 2 = 1 ∨ p / ((2 ^ k : Nat) : Int) % 2 = 0 := by omega
  have hstep : low p (k + 1) = low p k + ((2 ^ k : Nat) : Int) * (p / ((2 ^ k : Nat) : Int) % 2) := by
    clear e hs hp
    unfold low
    have : k = 0 ∨ k = 1 ∨ k = 2 ∨ k = 3 ∨ k = 4 ∨ k = 5 := by omega
    rcases this with rfl | rfl | rfl | rfl | rfl | rfl <;> simp <;> omega
  rw [e] at hstep ⊢
  by_cases hb : dotB p k = true
  · rw [if_pos hb, or_new k hk s hs, hstep, of_decide_eq_true hb]; omega
  · rw [if_neg hb, hstep, hd.resolve_left (fun h => hb (decide_eq_true h))]; omega
theorem main (p : Int) : callω L T 3 0 [.int .i64 p] [none] = some (.bool true, [none]) := by
  rw [call_go (show T 3 = some (.code a3) from rfl) rfl rfl]
  have h1 : mOf 1048575 = (0, false, false) := by decide
  have h2 : mOf 1048704 = (0, false, false) := by decide
  have s0 := low_step p 0 (by omega)
  have s1 := low_step p 1 (by omega)
  have s2 := low_step p 2 (by omega)
  have s3 := low_step p 3 (by omega)
  have s4 := low_step p 4 (by omega)
  have s5 := low_step p 5 (by omega)
  have l0 : low p 0 = 0 := by unfold low; omega
  have l6 : low p 6 = p % 64 := rfl
  simp only [l0, l6] at s0 s1 s2 s3 s4 s5
  simp at s0 s1 s2 s3 s4 s5
  simp [-List.all_eq_true, a3, Try.f3, t_law6_first, t_mosaic_Dots, t_mosaic_Of, h1, h2]
  refine headK_up (fun r => { env := [(0, .int .i64 p), (3, .bool true), (4, .ref 4 (0, 1) 0), (5, .int .i64 (if r = 0 then 0 else low p (2 * r))), (6, .int .i64 r)], heap := [(4, { stamp := (0, 1), cells := [.bool (dotB p 0), .bool (dotB p 1), .bool (dotB p 2), .bool (dotB p 3), .bool (dotB p 4), .bool (dotB p 5)] })], next := 2, tag := 0 }) 3 _ ?_ ?_ 0 (by omega)
  · intro r hr
    have : r = 0 ∨ r = 1 ∨ r = 2 := by omega
    rcases this with rfl | rfl | rfl
    · simp [-List.all_eq_true, l0]
      refine (headK_up (fun c => { env := [(0, .int .i64 p), (3, .bool true), (4, .ref 4 (0, 1) 0), (5, .int .i64 (if c = 0 then 0 else low p (0 + c))), (6, .int .i64 0), (7, .int .i64 c)], heap := [(4, { stamp := (0, 1), cells := [.bool (dotB p 0), .bool (dotB p 1), .bool (dotB p 2), .bool (dotB p 3), .bool (dotB p 4), .bool (dotB p 5)] })], next := 2, tag := 0 }) 2 _ ?_ ?_ 0 (by omega))
      · intro c hc
        have : c = 0 ∨ c = 1 := by omega
        rcases this with rfl | rfl
        · by_cases d : dotB p 0 = true
          · have e := s0
            rw [if_pos d] at e
            simp [-List.all_eq_true, d, e, l6]
          · have e := s0
            rw [if_neg d] at e
            simp [-List.all_eq_true, d, e.symm]
        · by_cases d : dotB p 1 = true
          · have e := s1
            rw [if_pos d] at e
            simp [-List.all_eq_true, d, e, l6]
          · have e := s1
            rw [if_neg d] at e
            simp [-List.all_eq_true, d, e, l6]
      · simp [-List.all_eq_true, l6]
    · simp [-List.all_eq_true, l0]
      refine (headK_up (fun c => { env := [(0, .int .i64 p), (3, .bool true), (4, .ref 4 (0, 1) 0), (5, .int .i64 (if c = 0 then low p 2 else low p (2 + c))), (6, .int .i64 1), (7, .int .i64 c)], heap := [(4, { stamp := (0, 1), cells := [.bool (dotB p 0), .bool (dotB p 1), .bool (dotB p 2), .bool (dotB p 3), .bool (dotB p 4), .bool (dotB p 5)] })], next := 2, tag := 0 }) 2 _ ?_ ?_ 0 (by omega))
      · intro c hc
        have : c = 0 ∨ c = 1 := by omega
        rcases this with rfl | rfl
        · by_cases d : dotB p 2 = true
          · have e := s2
            rw [if_pos d] at e
            simp [-List.all_eq_true, d, e, l6]
          · have e := s2
            rw [if_neg d] at e
            simp [-List.all_eq_true, d, e, l6]
        · by_cases d : dotB p 3 = true
          · have e := s3
            rw [if_pos d] at e
            simp [-List.all_eq_true, d, e, l6]
          · have e := s3
            rw [if_neg d] at e
            simp [-List.all_eq_true, d, e, l6]
      · simp [-List.all_eq_true, l6]
    · simp [-List.all_eq_true, l0]
      refine (headK_up (fun c => { env := [(0, .int .i64 p), (3, .bool true), (4, .ref 4 (0, 1) 0), (5, .int .i64 (if c = 0 then low p 4 else low p (4 + c))), (6, .int .i64 2), (7, .int .i64 c)], heap := [(4, { stamp := (0, 1), cells := [.bool (dotB p 0), .bool (dotB p 1), .bool (dotB p 2), .bool (dotB p 3), .bool (dotB p 4), .bool (dotB p 5)] })], next := 2, tag := 0 }) 2 _ ?_ ?_ 0 (by omega))
      · intro c hc
        have : c = 0 ∨ c = 1 := by omega
        rcases this with rfl | rfl
        · by_cases d : dotB p 4 = true
          · have e := s4
            rw [if_pos d] at e
            simp [-List.all_eq_true, d, e, l6]
          · have e := s4
            rw [if_neg d] at e
            simp [-List.all_eq_true, d, e, l6]
        · by_cases d : dotB p 5 = true
          · have e := s5
            rw [if_pos d] at e
            simp [-List.all_eq_true, d, e, l6]
          · have e := s5
            rw [if_neg d] at e
            simp [-List.all_eq_true, d, e, l6]
      · simp [-List.all_eq_true, l6]
  · simp [-List.all_eq_true, l6, and_63, t_mosaic_Of, h1, h2]
theorem law (cs : List AV) (h : ShpAll L 5 Try.f3.params.toList cs) : ∃ lent, callω L T 3 0 cs (List.replicate Try.f3.params.toList.length none) = some (.bool true, lent) := by
  rw [Try.params3] at h
  obtain ⟨x, _, rfl, hx, h⟩ := shpAll_int rfl h
  obtain rfl := shpAll_nil h
  exact ⟨_, main x⟩

open Go.ChangeShapes Go.WideShapes Go.ChangeAt Go.RowKit
theorem lifted (os : Os) (started : os.Started) (H : Type) (enc : TypeId × Value → H) :
    ReturnsInHanded {} Try.checked os 3 .any (Rows.mosaicDotsSpec.pre6 enc Try.prog Try.f3 Rows.mosaicDotsRow.domain false) (Rows.mosaicDotsSpec.post enc Try.prog Try.f3 false true false false) := by
  refine law_lift (C := Try.checked) (n := 5) own started (by kernel_rfl) Try.func3 L_ok T_ok (show T 3 = some (.code a3) from rfl) laid (by kernel_rfl) rfl Try.underlying4 rfl ?_ law
    (ChangeSpec.witness6 (enc := enc) (C := Try.checked) false ⟨#[], #[.int .i64 0], []⟩ 8 (by kernel_rfl) (by kernel_rfl) (by kernel_rfl) (by kernel_rfl))
  intro H ds hl
  rw [Try.params3] at hl
  match ds, hl with
  | [d1], _ => rfl

theorem over : Rows.mosaicDotsRow.holds Try.pinned (OpenSpec.ofChange Rows.mosaicDotsSpec) :=
  OpenClaim.holds_of_wide 3 Try.f3 rfl rfl rfl rfl rfl rfl rfl ⟨rfl, rfl, rfl, rfl, rfl⟩ rfl rfl rfl rfl rfl (by kernel_rfl) Try.func3 (by kernel_rfl)
    (of_decide_eq_true (by kernel_rfl)) (by unfold Func.isWrapper; first | (rw [if_pos (by decide +kernel)]; kernel_rfl) | (rw [if_neg (by decide +kernel)]; exact ⟨rfl, rfl⟩))
    (fun os started H enc _ => lifted os started H enc)

theorem proved : Rows.MosaicDotsSaid :=
  over
#print axioms proved
end Go.Proofs.Ytpnkngnpdfhbgaa.mosaicDots
