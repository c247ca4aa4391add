/- MosaicBack: a pattern's byte has it, its glyph is it, parted or not, unlike ones have unlike bytes and glyphs. No condition. -/
import Derived.Test.YtpnkngnpdfhbgaaRows
import Derived.Test.YtpnkngnpdfhbgaaSimT
import Derived.Test.YtpnkngnpdfhbgaaSimFacts
import Derived.Test.YtpnkngnpdfhbgaaPmosaic
set_option maxRecDepth 100000
set_option maxHeartbeats 4000000
set_option linter.unusedSimpArgs false
set_option linter.unusedVariables false
namespace Go.Proofs.Ytpnkngnpdfhbgaa.mosaicBack
open Go Go.Sim
attribute [local congr] ite_congr go_congr goOps_congr stepK_congr ret_congr headK_congr condK_congr guardK_congr
attribute [local simp] go_skip go_ret go_exit go_region go_seq go_cond go_block go_loop ret_nil ret_seq ret_seq_exit ret_seq_ret ret_blk ret_blk_ret ret_blk_exit ret_loop ret_loop_exit ret_loop_ret loopK_head goOps_nil goOps_cons goOps_guard stepK_some stepK_none stepK_ite guardK_true guardK_false guardK_bool condK_bool fin
attribute [local simp] runs denOp operand aget aput adel putD tidy trim getAll freezeAll freezeOne lentOut oneOrTup argEnv lentHeap ofConst ofScalar aCall lendAll lend lentApart lentFree readFree giveBack adopt aBin aUn L Ls mkA getRes asInt? bnd okRead okStore Ann.storeAt lendSize firstRegion List.find?_cons List.find?_nil
attribute [local simp] aInt_add aInt_sub aInt_mul aInt_quo aInt_rem aInt_and aInt_or aInt_xor aInt_andNot aInt_eql aInt_neq aInt_lss aInt_leq aInt_gtr aInt_geq aShift_shl aShift_shr
attribute [local simp] bAnd_u8 bOr_u8 bXor_u8 bAndNot_u8 bShl_u8 wrap_u8_range
attribute [local simp] aBuiltin slLen slCells aAppend newBlk blkOf putCells rdCells TI.isAgg aLoad aStore setR cutA aSlice aStrSlice fillA parts slElem fieldOf freezeSl freezeAgg AV.cells AV.solid AV.isRef repl
attribute [local simp] w_i64 w_u64 w_u8 all_plain_int all_plain_bool all_plain_app pl_bool pl_int pl_str pl_nilp pl_nsl pl_nilI pl_nilF pl_msl pl_ref pl_isl pl_fsl pl_agg take_map_len nat_not_neg int_beq int_bne Int.natCast_inj all_pc_bool all_pc_int all_take_bool all_drop_bool all_take_int all_drop_int

theorem codes (a b : Nat) (ha : a < 64) (hb : b < 64) : (mCodeI a = mCodeI b ↔ a = b) ∧ isMos (mCodeI a) = true ∧ mCodeI a < 128 ∧ 0 ≤ mCodeI a ∧ patI (mCodeI a) = a := by
  have h : allB (fun a => allB (fun b => decide ((mCodeI a = mCodeI b ↔ a = b) ∧ isMos (mCodeI a) = true ∧ mCodeI a < 128 ∧ 0 ≤ mCodeI a ∧ patI (mCodeI a) = a)) 64) 64 = true := by decide +kernel
  have h1 := allB_get (p := fun a => allB (fun b => decide ((mCodeI a = mCodeI b ↔ a = b) ∧ isMos (mCodeI a) = true ∧ mCodeI a < 128 ∧ 0 ≤ mCodeI a ∧ patI (mCodeI a) = a)) 64) h ha
  have h2 := allB_get (p := fun b => decide ((mCodeI a = mCodeI b ↔ a = b) ∧ isMos (mCodeI a) = true ∧ mCodeI a < 128 ∧ 0 ≤ mCodeI a ∧ patI (mCodeI a) = a)) h1 hb
  exact of_decide_eq_true h2
theorem code_mod (p : Int) : mCodeI p = mCodeI (p % 64) := by
  unfold mCodeI
  have e1 : p % 64 % 32 = p % 32 := by omega
  have e2 : p % 64 % 64 = p % 64 := by omega
  rw [e1, e2]
theorem main (p q : Int) (s t : Bool) : callω L T 4 0 [.int .i64 p, .int .i64 q, .bool s, .bool t] [none, none, none, none] = some (.bool true, [none, none, none, none]) := by
  rw [call_go (show T 4 = some (.code a4) from rfl) rfl rfl]
  obtain ⟨a, ha, ea⟩ : ∃ r : Nat, r < 64 ∧ p % 64 = r := ⟨(p % 64).toNat, by omega, by omega⟩
  obtain ⟨b, hb, eb⟩ : ∃ r : Nat, r < 64 ∧ q % 64 = r := ⟨(q % 64).toNat, by omega, by omega⟩
  obtain ⟨k1, k2, k3, k4, k5⟩ := codes a b ha hb
  have c1 : mCodeI p = mCodeI a := by rw [code_mod, ea]
  have c2 : mCodeI q = mCodeI b := by rw [code_mod, eb]
  have k6 : mCodeI a < 256 := by omega
  have g1 : mGlyphI p s = 1048576 + a + (if s then 64 else 0) := by unfold mGlyphI; rw [ea]
  have g2 : mGlyphI q t = 1048576 + b + (if t then 64 else 0) := by unfold mGlyphI; rw [eb]
  have g3 : mOf (mGlyphI p s) = ((a : Int), s, true) := by
    rw [g1]
    cases s
    · have : (1048576 + (a : Int) + (if false = true then 64 else 0)) - 1048576 = a := by simp <;> omega
      unfold mOf; rw [this, if_pos (by omega)]
      have e1 : (a : Int) % 64 = a := by omega
      have e2 : decide (64 ≤ (a : Int)) = false := decide_eq_false (by omega)
      rw [e1, e2]
    · have : (1048576 + (a : Int) + (if true = true then 64 else 0)) - 1048576 = a + 64 := by simp <;> omega
      unfold mOf; rw [this, if_pos (by omega)]
      have e1 : ((a : Int) + 64) % 64 = a := by omega
      have e2 : decide (64 ≤ (a : Int) + 64) = true := decide_eq_true (by omega)
      rw [e1, e2]
  have g4 : -9223372036853727232 ≤ mGlyphI p s := by rw [g1]; split <;> omega
  have g5 : mGlyphI p s ≤ 9223372036854775807 := by rw [g1]; split <;> omega
  have g6 : 1048576 ≤ mGlyphI p s := by rw [g1]; split <;> omega
  have g7 : mGlyphI p s < 1048704 := by rw [g1]; split <;> omega
  have g8 : mGlyphI p s = mGlyphI q t ↔ (a = b ∧ s = t) := by
    rw [g1, g2]
    cases s <;> cases t <;> simp <;> omega
  have m1 : bAnd .i64 p 63 = a := by rw [and_63]; exact ea
  have m2 : bAnd .i64 q 63 = b := by rw [and_63]; exact eb
  by_cases hab : a = b
  · subst hab
    by_cases hst : s = t
    · subst hst
      have e := g8.2 ⟨rfl, rfl⟩
      simp [-List.all_eq_true, a4, Try.f4, t_law6_first, t_mosaic_Code, t_mosaic_Is, t_mosaic_Pattern, t_mosaic_Glyph, t_mosaic_Of, c1, c2, k2, k3, k4, k5, k6, g3, g4, g5, g6, g7, ← e, m1, m2]
    · have e : ¬ mGlyphI p s = mGlyphI q t := fun h => hst (g8.1 h).2
      simp [-List.all_eq_true, a4, Try.f4, t_law6_first, t_mosaic_Code, t_mosaic_Is, t_mosaic_Pattern, t_mosaic_Glyph, t_mosaic_Of, c1, c2, k2, k3, k4, k5, k6, g3, g4, g5, g6, g7, e, m1, m2, hst]
  · have e : ¬ mGlyphI p s = mGlyphI q t := fun h => hab (g8.1 h).1
    have e2 : ¬ mCodeI a = mCodeI b := fun h => hab (k1.1 h)
    simp [-List.all_eq_true, a4, Try.f4, t_law6_first, t_mosaic_Code, t_mosaic_Is, t_mosaic_Pattern, t_mosaic_Glyph, t_mosaic_Of, c1, c2, k2, k3, k4, k5, k6, g3, g4, g5, g6, g7, e, e2, m1, m2, hab]
theorem law (cs : List AV) (h : ShpAll L 5 Try.f4.params.toList cs) : ∃ lent, callω L T 4 0 cs (List.replicate Try.f4.params.toList.length none) = some (.bool true, lent) := by
  rw [Try.params4] at h
  obtain ⟨x, _, rfl, hx, h⟩ := shpAll_int rfl h
  obtain ⟨y, _, rfl, hy, h⟩ := shpAll_int rfl h
  obtain ⟨s, _, rfl, h1⟩ := shpAll_bool rfl h
  obtain ⟨t, _, rfl, h2⟩ := shpAll_bool rfl h1
  obtain rfl := shpAll_nil h2
  exact ⟨_, main x y s t⟩

open Go.ChangeShapes Go.WideShapes Go.ChangeAt Go.RowKit
theorem lifted (os : Os) (started : os.Started) (H : Type) (enc : TypeId × Value → H) :
    ReturnsInHanded {} Try.checked os 4 .any (Rows.mosaicBackSpec.pre6 enc Try.prog Try.f4 Rows.mosaicBackRow.domain false) (Rows.mosaicBackSpec.post enc Try.prog Try.f4 false true false false) := by
  refine law_lift (C := Try.checked) (n := 5) own started (by kernel_rfl) Try.func4 L_ok T_ok (show T 4 = some (.code a4) from rfl) laid (by kernel_rfl) rfl Try.underlying4 rfl ?_ law
    (ChangeSpec.witness6 (enc := enc) (C := Try.checked) false ⟨#[], #[.int .i64 0, .int .i64 0, .bool false, .bool false], []⟩ 8 (by kernel_rfl) (by kernel_rfl) (by kernel_rfl) (by kernel_rfl))
  intro H ds hl
  rw [Try.params4] at hl
  match ds, hl with
  | [d1, d2, d3, d4], _ => rfl

theorem over : Rows.mosaicBackRow.holds Try.pinned (OpenSpec.ofChange Rows.mosaicBackSpec) :=
  OpenClaim.holds_of_wide 4 Try.f4 rfl rfl rfl rfl rfl rfl rfl ⟨rfl, rfl, rfl, rfl, rfl⟩ rfl rfl rfl rfl rfl (by kernel_rfl) Try.func4 (by kernel_rfl)
    (of_decide_eq_true (by kernel_rfl)) (by unfold Func.isWrapper; first | (rw [if_pos (by decide +kernel)]; kernel_rfl) | (rw [if_neg (by decide +kernel)]; exact ⟨rfl, rfl⟩))
    (fun os started H enc _ => lifted os started H enc)

theorem proved : Rows.MosaicBackSaid :=
  over
#print axioms proved
end Go.Proofs.Ytpnkngnpdfhbgaa.mosaicBack
