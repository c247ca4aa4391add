/- Functions of the seat, worked off from their code: chunk page2. Written by program (tools/mkp.py) from wip/fn. -/
import Derived.Test.YtkienchmbfhigaaSimT
import Derived.Test.YtkienchmbfhigaaSimY
import Derived.Test.YtkienchmbfhigaaPpage1
import Derived.Test.YtkienchmbfhigaaPtrs
set_option maxRecDepth 100000
set_option maxHeartbeats 40000000
set_option linter.unusedSimpArgs false
set_option linter.unusedVariables false
namespace Go.Proofs.Ytkienchmbfhigaa
open Go Go.Sim
attribute [local irreducible] chk brX getX strX setX takeX normX fillX lendX partsX opsX callK lentK lentR giveX adoptX resX joinX headX loopX seqK blkK regK finX exOps ex eqT
attribute [local simp] setR_int setR_bool setR_zero setR_succ repl_int repl_bool List.getElem?_cons_zero List.getElem?_cons_succ List.getElem?_nil w_i64 w_u64 w_u8 bAnd_u8 bOr_u8 bXor_u8 bAndNot_u8 bShl_u8 wrap_u8_range all_plain_int all_plain_bool all_plain_app pl_bool pl_int pl_str pl_nilp pl_nsl pl_nilI pl_nilF take_map_len AV.cells TI.isAgg
attribute [local simp] Tr.flen Tr.rd Tr.g0 Tr.g1 Tr.g2 Tr.put Tr.pute Tr.s0 Tr.s1 Tr.s2 Tr.zero Tr.enc

theorem t_CloneT (tag : Nat) (l : List Tr) (hl : l.length < 1000000) : callω L T 27 tag [.isl 3 l.length (flat Tr.enc l)] [none] = some (.fsl 3 l.length (flat Tr.enc l), [none]) := by
  refine (callω_law (L := L) (T := T) (show T 27 = some (.law (cloneLaw 3 24)) from rfl) (tag := tag)).trans ?_
  have := Tr.pl l
  have h2 := Tr.flen l
  unfold cloneLaw
  simp only [true_and]
  rw [if_pos ⟨by omega, by omega, this⟩]
theorem t_CloneT0 (tag : Nat) : callω L T 27 tag [.nsl] [none] = some (.fsl 3 0 [], [none]) := by
  refine (callω_law (L := L) (T := T) (show T 27 = some (.law (cloneLaw 3 24)) from rfl) (tag := tag)).trans ?_
  rfl
theorem t_CloneB (tag : Nat) (l : List Int) (hl : l.length < 1000000) : callω L T 45 tag [.isl 1 l.length (l.map (.int .u8))] [none] = some (.fsl 1 l.length (l.map (.int .u8)), [none]) := by
  refine (callω_law (L := L) (T := T) (show T 45 = some (.law (cloneLaw 1 1)) from rfl) (tag := tag)).trans ?_
  have : (l.map (AV.int .u8)).all AV.plain = true := by simp [AV.plain]
  unfold cloneLaw
  simp only [true_and]
  rw [if_pos ⟨by simp, by omega, this⟩]
theorem t_Mul1 (tag : Nat) (n : Int) (h : n = 8 ∨ n = 40) : callω L T 64 tag [.int .u64 1, .int .u64 n] [none, none] = some (.tup [.int .u64 0, .int .u64 n], [none, none]) := by
  rw [call_ex (show T 64 = some (.code a64) from rfl) rfl rfl]
  rcases h with rfl | rfl
  · (refine gox ?_)
    (refine finx ?_; try with_reducible rfl)
    first | rfl | kernel_rfl
  · (refine gox ?_)
    (refine finx ?_; try with_reducible rfl)
    first | rfl | kernel_rfl
theorem t_Mul (tag : Nat) (n : Int) (h : n = 8 ∨ n = 40) : callω L T 53 tag [.int .u64 1, .int .u64 n] [none, none] = some (.tup [.int .u64 0, .int .u64 n], [none, none]) := by
  rw [call_ex (show T 53 = some (.code a53) from rfl) rfl rfl]
  have t1 := t_Mul1 (tag + 1) n h
  (have c1 := t1; refine gox ?_; clear c1)
  (refine finx ?_; try with_reducible rfl)
theorem t_Repeat (tag : Nat) (b : Int) : callω L T 44 tag [.isl 1 1 [.int .u8 b], .int .i64 8] [none, none] = some (.fsl 1 8 ((List.replicate 8 b).map (.int .u8)), [none, none]) := by
  rw [call_ex (show T 44 = some (.code a44) from rfl) rfl rfl]
  have tm := t_Mul (tag + 1) 8 (Or.inl rfl)
  have w8 : IntKind.i64.wrap 8 = 8 := by decide
  have z8 : List.map (AV.int .u8) (List.replicate 8 0) = [.int .u8 0, .int .u8 0, .int .u8 0, .int .u8 0, .int .u8 0, .int .u8 0, .int .u8 0, .int .u8 0] := rfl
  (have fA := And.intro @w8 @z8; have c1 := tm; refine gox ?_; clear fA c1)
  refine Eq.trans (head_eq (env' := [(7, .msl 30 (tag, 2) 1 0 8), (8, .int .i64 1)]) (heap' := [(30, ⟨(tag, 2), [.int .u8 b, .int .u8 0, .int .u8 0, .int .u8 0, .int .u8 0, .int .u8 0, .int .u8 0, .int .u8 0]⟩)]) (by simp) (by simp) rfl) ?_
  refine Eq.trans headX_go ?_
  (have fA := And.intro @w8 @z8; refine gox ?_; clear fA)
  refine Eq.trans (head_eq (env' := [(7, .msl 30 (tag, 2) 1 0 8), (8, .int .i64 2)]) (heap' := [(30, ⟨(tag, 2), [.int .u8 b, .int .u8 b, .int .u8 0, .int .u8 0, .int .u8 0, .int .u8 0, .int .u8 0, .int .u8 0]⟩)]) (by simp) (by simp) rfl) ?_
  refine Eq.trans headX_go ?_
  (have fA := And.intro @w8 @z8; refine gox ?_; clear fA)
  refine Eq.trans (head_eq (env' := [(7, .msl 30 (tag, 2) 1 0 8), (8, .int .i64 4)]) (heap' := [(30, ⟨(tag, 2), [.int .u8 b, .int .u8 b, .int .u8 b, .int .u8 b, .int .u8 0, .int .u8 0, .int .u8 0, .int .u8 0]⟩)]) (by simp) (by simp) rfl) ?_
  refine Eq.trans headX_go ?_
  (have fA := And.intro @w8 @z8; refine gox ?_; clear fA)
  refine Eq.trans (head_eq (env' := [(7, .msl 30 (tag, 2) 1 0 8), (8, .int .i64 8)]) (heap' := [(30, ⟨(tag, 2), [.int .u8 b, .int .u8 b, .int .u8 b, .int .u8 b, .int .u8 b, .int .u8 b, .int .u8 b, .int .u8 b]⟩)]) (by simp) (by simp) rfl) ?_
  refine Eq.trans headX_go ?_
  (have fA := And.intro @w8 @z8; refine gox ?_; clear fA)
  (refine finx ?_; try with_reducible rfl)
  try rfl
end Go.Proofs.Ytkienchmbfhigaa
