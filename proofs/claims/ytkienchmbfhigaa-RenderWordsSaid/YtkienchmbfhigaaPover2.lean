/- Functions of the seat, worked off from their code: chunk over2. Written by program (tools/mkp.py) from wip/fn. -/
import Derived.Test.YtkienchmbfhigaaSimT
import Derived.Test.YtkienchmbfhigaaSimY
import Derived.Test.YtkienchmbfhigaaPover
set_option maxRecDepth 100000
set_option maxHeartbeats 40000000
set_option linter.unusedSimpArgs false
set_option linter.unusedVariables false
namespace Go.Proofs.Ytkienchmbfhigaa
open Go Go.Sim
attribute [local irreducible] chk brX getX strX setX takeX normX fillX lendX partsX opsX callK lentK lentR giveX adoptX resX joinX headX loopX seqK blkK regK finX exOps ex eqT
attribute [local simp] setR_int setR_bool setR_zero setR_succ repl_int repl_bool List.getElem?_cons_zero List.getElem?_cons_succ List.getElem?_nil w_i64 w_u64 w_u8 bAnd_u8 bOr_u8 bXor_u8 bAndNot_u8 bShl_u8 wrap_u8_range all_plain_int all_plain_bool all_plain_app pl_bool pl_int pl_str pl_nilp pl_nsl pl_nilI pl_nilF take_map_len AV.cells TI.isAgg
attribute [local simp] Tr.flen Tr.rd Tr.g0 Tr.g1 Tr.g2 Tr.put Tr.pute Tr.s0 Tr.s1 Tr.s2 Tr.zero Tr.enc Sp.flen Sp.rd Sp.g0 Sp.g1 Sp.g2 Sp.put Sp.pute Sp.s0 Sp.s1 Sp.s2 Sp.zero Sp.enc

theorem t_Spots (tag : Nat) (l : List Tr) (hl : l.length < 1000000) : callω L T 30 tag [.isl 3 l.length (flat Tr.enc l)] [none] = some (.fsl 3 (spotsF l (-1)).length (flat Sp.enc (spotsF l (-1))), [none]) := by
  rw [call_ex (show T 30 = some (.code a30) from rfl) rfl rfl]
  (refine gox ?_)
  refine headX_fold (fun k (x : Int × List Sp × Nat × Nat) => x.2.1.length ≤ k) (fun k (x : Int × List Sp × Nat × Nat) => ⟨[(3, .msl 3 (tag, x.2.2.1) 3 0 x.2.1.length), (4, .int .i64 x.1), (9, .isl 3 l.length (flat Tr.enc l)), (10, .int .i64 l.length), (11, .int .i64 k)], [(3, ⟨(tag, x.2.2.1), flat Sp.enc x.2.1⟩)], x.2.2.2, tag⟩) l (fun l (x : Int × List Sp × Nat × Nat) => some (.fsl 3 (x.2.1 ++ spotsF l x.1).length (flat Sp.enc (x.2.1 ++ spotsF l x.1)), [none])) ?_ ?_ (-1, [], 1 + 1, 1 + 1 + 1) (Nat.le_refl 0)
  · rintro k ⟨at', acc, g, nx⟩ hk hacc ih
    dsimp only at hacc ih ⊢
    have tr := t_row (tag + 1) l[k] at'
    have tg := t_glyph (tag + 1) l[k]
    have hpl := Sp.pl acc
    by_cases h1 : 40 ≤ l[k].addr
    · by_cases h2 : l[k].mode = 31
      · have es : spotsF (l[k] :: l.drop (k + 1)) at' = [] := by rw [spotsF, if_pos h1, if_pos h2]
        rw [es, List.append_nil]
        (have fA := And.intro @Tr.rd @Sp.flen; have c1 := tr; have c2 := tg; refine gox ?_; clear fA c1 c2)
        (have fA := And.intro @Sp.flen @hpl; refine finx ?_; clear fA; try with_reducible rfl)
        try rfl
      · have es : spotsF (l[k] :: l.drop (k + 1)) at' = spotsF (l.drop (k + 1)) (rowI l[k] at') := by rw [spotsF, if_pos h1, if_neg h2]
        rw [es]
        refine Eq.trans ?_ (ih (rowI l[k] at', acc, g, nx + 1) (by dsimp only; omega))
        (have fA := And.intro @Tr.rd @Sp.flen; have c1 := tr; have c2 := tg; refine gox ?_; clear fA c1 c2)
        refine head_eq ?_ rfl rfl
        simp [wrap_succ hk (by omega)]
    · cases hg : (glyphI l[k]).2 with
      | false =>
        have es : spotsF (l[k] :: l.drop (k + 1)) at' = spotsF (l.drop (k + 1)) at' := by rw [spotsF, if_neg h1, hg, if_neg (by simp)]
        rw [es]
        refine Eq.trans ?_ (ih (at', acc, g, nx + 1) (by dsimp only; omega))
        (have fA := And.intro @Tr.rd @Sp.flen; have c1 := tg; refine gox ?_; clear fA c1)
        refine head_eq ?_ rfl rfl
        simp [wrap_succ hk (by omega)]
      | true =>
        by_cases ha : at' = -1
        · have es : spotsF (l[k] :: l.drop (k + 1)) at' = spotsF (l.drop (k + 1)) at' := by rw [spotsF, if_neg h1, hg, if_neg (fun x => x.2 ha)]
          rw [es]
          refine Eq.trans ?_ (ih (at', acc, g, nx + 1) (by dsimp only; omega))
          (have fA := And.intro @Tr.rd @Sp.flen; have c1 := tg; refine gox ?_; clear fA c1)
          refine head_eq ?_ rfl rfl
          simp [wrap_succ hk (by omega)]
        · have es : spotsF (l[k] :: l.drop (k + 1)) at' = ⟨at', l[k].addr, (glyphI l[k]).1⟩ :: spotsF (l.drop (k + 1)) at' := by rw [spotsF, if_neg h1, hg, if_pos ⟨rfl, ha⟩]
          have el : acc ++ spotsF (l[k] :: l.drop (k + 1)) at' = (acc ++ [⟨at', l[k].addr, (glyphI l[k]).1⟩]) ++ spotsF (l.drop (k + 1)) at' := by rw [es]; simp
          rw [el]
          have ej : flat Sp.enc acc ++ [.int .i64 at', .int .i64 l[k].addr, .int .i64 (glyphI l[k]).1] = flat Sp.enc (acc ++ [⟨at', l[k].addr, (glyphI l[k]).1⟩]) := by rw [flt_append, flt_one]; rfl
          refine Eq.trans ?_ (ih (at', acc ++ [⟨at', l[k].addr, (glyphI l[k]).1⟩], nx + 1 + 1, nx + 1 + 1 + 1) (by simp; omega))
          (have fA := And.intro @Tr.rd (And.intro @Sp.flen @ej); have c1 := tg; refine gox ?_; clear fA c1)
          refine head_eq ?_ ?_ rfl
          · simp [wrap_succ hk (by omega)]
          · simp [ej]
  · rintro ⟨at', acc, g, nx⟩ hacc
    dsimp only at hacc ⊢
    have hpl := Sp.pl acc
    rw [show spotsF [] at' = [] from rfl, List.append_nil]
    (refine gox ?_)
    (have fA := And.intro @Sp.flen @hpl; refine finx ?_; clear fA; try with_reducible rfl)
    try rfl

end Go.Proofs.Ytkienchmbfhigaa
