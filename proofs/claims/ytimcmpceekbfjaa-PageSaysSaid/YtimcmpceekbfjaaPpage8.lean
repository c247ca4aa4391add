/- Functions of the seat, worked off from their code: chunk page8. Written by program (tools/mkp.py) from wip/fn. -/
import Derived.Test.YtimcmpceekbfjaaSimT
import Derived.Test.YtimcmpceekbfjaaSimY
import Derived.Test.YtimcmpceekbfjaaPpage6
set_option maxRecDepth 100000
set_option maxHeartbeats 40000000
set_option linter.unusedSimpArgs false
set_option linter.unusedVariables false
namespace Go.Proofs.Ytimcmpceekbfjaa
open Go Go.Sim
attribute [local irreducible] chk brX getX strX setX takeX normX fillX lendX partsX opsX callK lentK giveX adoptX resX joinX headX loopX seqK blkK regK finX exOps ex eqT
attribute [local simp] setR_int setR_bool setR_zero setR_succ repl_int repl_bool List.getElem?_cons_zero List.getElem?_cons_succ List.getElem?_nil w_i64 w_u64 w_u8 bAnd_u8 bOr_u8 bXor_u8 bAndNot_u8 bShl_u8 wrap_u8_range all_plain_int all_plain_bool all_plain_app pl_bool pl_int pl_str pl_nilp pl_nsl pl_nilI pl_nilF take_map_len AV.cells TI.isAgg
attribute [local simp] Tr.flen Tr.rd Tr.g0 Tr.g1 Tr.g2 Tr.put Tr.pute Tr.s0 Tr.s1 Tr.s2 Tr.zero Tr.enc Hd.flen Hd.rd Hd.g0 Hd.g1 Hd.g2 Hd.g3 Hd.g4 Hd.g5 Hd.g6 Hd.g7 Hd.g8 Hd.g9 Hd.g10 Hd.g11 Hd.g12 Hd.g13 Hd.g14 Hd.put Hd.pute Hd.s0 Hd.s1 Hd.s2 Hd.s3 Hd.s4 Hd.s5 Hd.s6 Hd.s7 Hd.s8 Hd.s9 Hd.s10 Hd.s11 Hd.s12 Hd.s13 Hd.s14 Hd.zero Hd.enc

def mixT (G l : List Tr) (c k : Nat) : List Tr := G.take (13 * c) ++ ((thirteen l).take k ++ G.drop (13 * c + k))
theorem mixT_zero (G l : List Tr) (c : Nat) : mixT G l c 0 = G := by simp [mixT]
theorem mixT_all (G l : List Tr) (c : Nat) : mixT G l c 13 = placeT G l c := by
  unfold mixT placeT
  rw [List.take_of_length_le (l := thirteen l) (by rw [thirteen_len]; omega)]
theorem mixT_len {G l : List Tr} {c k : Nat} (h : 13 * c + 13 ≤ G.length) (hk : k ≤ 13) : (mixT G l c k).length = G.length := by
  simp [mixT, thirteen_len]; omega
theorem mixT_more {G l : List Tr} {c k : Nat} (h : 13 * c + 13 ≤ G.length) (hk : k < 13) : (mixT G l c k).set (13 * c + k) ((thirteen l)[k]'(by rw [thirteen_len]; exact hk)) = mixT G l c (k + 1) := by
  unfold mixT
  have h1 : (G.take (13 * c)).length = 13 * c := by simp; omega
  have h2 : ((thirteen l).take k).length = k := by rw [List.length_take, thirteen_len]; omega
  have h3 : G.drop (13 * c + k) = G[13 * c + k]'(by omega) :: G.drop (13 * c + k + 1) := List.drop_eq_getElem_cons (by omega)
  rw [List.set_append_right _ _ (by omega), h1, Nat.add_sub_cancel_left, List.set_append_right _ _ (by omega), h2, Nat.sub_self, h3, List.set_cons_zero]
  congr 1
  rw [List.take_add_one, List.getElem?_eq_getElem (by rw [thirteen_len]; exact hk), List.append_assoc]
  rfl
theorem thirteen_get {l : List Tr} {k : Nat} (hk : k < 13) (h : k < l.length) : (thirteen l)[k]'(by rw [thirteen_len]; exact hk) = l[k] := by
  simp only [thirteen]
  rw [List.getElem_append_left (by rw [List.length_take]; omega), List.getElem_take]
theorem thirteen_out {l : List Tr} {k : Nat} (hk : k < 13) (h : ¬ k < l.length) : (thirteen l)[k]'(by rw [thirteen_len]; exact hk) = Tr.none := by
  simp only [thirteen]
  rw [List.getElem_append_right (by rw [List.length_take]; omega), List.getElem_replicate]
attribute [local irreducible] Pg.enc
theorem t_r12_Extra (tag : Nat) (p : Pg) (hp : p.Ok) {x : AV} (hx : ExOK x p.extra) (hl : p.extra.length < 1000000) (code : Int) (l : List Tr) (hll : l.length < 1000000) :
    callω L T 26 tag [.agg (p.enc x), .int .i64 code, .isl 3 l.length (flat Tr.enc l)] [none, none, none] = some (.agg ((extraF p code l).enc (.isl 3 (extraF p code l).extra.length (flat Tr.enc (extraF p code l).extra))), [none, none, none]) := by
  rw [call_ex (show T 26 = some (.code a26) from rfl) rfl rfl]
  have tc := t_TripledX (tag + 1) hx hl
  have oz := Pg.none_ok
  have fl := Tr.flen p.extra
  have fp := Tr.pl p.extra
  have fll := Tr.flen l
  unfold extraF
  by_cases h1 : code < 0
  · rw [if_pos (Or.inl h1)]
    rcases hx with rfl | ⟨rfl, he⟩
    all_goals (have fA := And.intro @pgs (And.intro @Pg.zero_eq @fl); have c1 := tc; refine gox ?_; clear fA c1)
    all_goals (have fA := And.intro @pgs (And.intro @fl @fp); refine finx ?_; clear fA; try with_reducible rfl)
  by_cases h2 : 15 < code
  · rw [if_pos (Or.inr h2)]
    rcases hx with rfl | ⟨rfl, he⟩
    all_goals (have fA := And.intro @pgs (And.intro @Pg.zero_eq @fl); have c1 := tc; refine gox ?_; clear fA c1)
    all_goals (have fA := And.intro @pgs (And.intro @fl @fp); refine finx ?_; clear fA; try with_reducible rfl)
  rw [if_neg (by omega)]
  obtain ⟨c, rfl⟩ : ∃ c : Nat, code = c := ⟨code.toNat, by omega⟩
  have hc : c < 16 := by omega
  simp only [Int.toNat_natCast]
  have hw : IntKind.i64.wrap (13 * IntKind.i64.wrap ((c : Int) + 1)) = 13 * ((c : Int) + 1) := by rw [w_i64 (x := (c : Int) + 1) (by omega) (by omega), w_i64 (by omega) (by omega)]
  have hw2 : IntKind.i64.wrap (13 * (c : Int)) = ((13 * c : Nat) : Int) := by rw [w_i64 (by omega) (by omega)]; omega
  refine goal_join (Q := ?kQ) (fun key => ?kk) ?kb
  case kk =>
    rcases hx with rfl | ⟨rfl, he⟩
    all_goals (have fA := And.intro @pgs (And.intro @Pg.zero_eq @fl); have c1 := tc; refine gox ?_; clear fA c1)
    all_goals exact key.out
  clear hx tc
  refine Eq.trans (head_eq (heap' := [(3, ⟨(tag, 1), p.enc (.msl 11 (tag, 1 + 1 + 1) 3 0 (p.extra.length + 0))⟩), (6, ⟨(tag, 1 + 1), Pg.none.enc .nsl⟩), (11, ⟨(tag, 1 + 1 + 1), flat Tr.enc (gr p.extra 0)⟩)]) rfl (by rw [gr_zero]; rfl) rfl) ?_
  refine headX_for (fun _ (_ : Nat × Nat) => True) (fun k (x : Nat × Nat) => ⟨[(1, .int .i64 c), (2, .isl 3 l.length (flat Tr.enc l)), (3, .ref 3 (tag, 1) 0), (6, .ref 6 (tag, 1 + 1) 0)], [(3, ⟨(tag, 1), p.enc (.msl 11 (tag, x.1) 3 0 (p.extra.length + k))⟩), (6, ⟨(tag, 1 + 1), Pg.none.enc .nsl⟩), (11, ⟨(tag, x.1), flat Tr.enc (gr p.extra k)⟩)], x.2, tag⟩) (13 * (c + 1) - p.extra.length) _ ?_ ?_ (1 + 1 + 1, 1 + 1 + 1 + 1) trivial
  · rintro k ⟨g, nx⟩ hk - ih
    dsimp only at ih ⊢
    refine Eq.trans ?_ (ih (nx + 1, nx + 1 + 1) trivial)
    have l1 : (flat Tr.enc (gr p.extra k)).length = (p.extra.length + k) * 3 := by rw [Tr.flen, gr_len]
    have m1 := gr_more p.extra k
    clear ih
    generalize flat Tr.enc (gr p.extra (k + 1)) = c2 at *
    generalize flat Tr.enc (gr p.extra k) = c1 at *
    (have fA := And.intro @pgs (And.intro @l1 (And.intro @m1 (@List.drop_zero AV))); refine gox ?_; clear fA)
    refine head_eq rfl ?_ rfl
    rw [← m1]; rfl
  · rintro ⟨g, nx⟩ -
    have el : p.extra.length + (13 * (c + 1) - p.extra.length) = (growT p.extra (13 * (c + 1))).length := by rw [growT_len]; omega
    have e0 := growT_len p.extra (13 * (c + 1))
    dsimp only
    rw [gr_grow, el]
    generalize growT p.extra (13 * (c + 1)) = G at *
    have hG : 13 * c + 13 ≤ G.length := by omega
    (have fA := And.intro @pgs (@List.drop_zero AV); refine gox ?_; clear fA)
    refine Eq.trans (head_eq (env' := [(1, .int .i64 c), (2, .isl 3 l.length (flat Tr.enc l)), (3, .ref 3 (tag, 1) 0), (6, .ref 6 (tag, 1 + 1) 0), (7, .int .i64 ((0 : Nat) : Int))]) (heap' := [(3, ⟨(tag, 1), p.enc (.msl 11 (tag, g) 3 0 G.length)⟩), (6, ⟨(tag, 1 + 1), Pg.none.enc .nsl⟩), (11, ⟨(tag, g), flat Tr.enc (mixT G l c 0)⟩)]) rfl (by rw [mixT_zero]) rfl) ?_
    refine headX_upN (fun k nx => ⟨[(1, .int .i64 c), (2, .isl 3 l.length (flat Tr.enc l)), (3, .ref 3 (tag, 1) 0), (6, .ref 6 (tag, 1 + 1) 0), (7, .int .i64 k)], [(3, ⟨(tag, 1), p.enc (.msl 11 (tag, g) 3 0 G.length)⟩), (6, ⟨(tag, 1 + 1), Pg.none.enc .nsl⟩), (11, ⟨(tag, g), flat Tr.enc (mixT G l c k)⟩)], nx, tag⟩) 13 _ ?_ ?_ 0 nx (by omega)
    · intro k nx hk
      have l1 : (flat Tr.enc (mixT G l c k)).length = G.length * 3 := by rw [Tr.flen, mixT_len hG (by omega)]
      have hi : 13 * c + k < (mixT G l c k).length := by rw [mixT_len hG (by omega)]; omega
      have hs := Tr.pute (xs := mixT G l c k) (i := 13 * c + k) (y := (thirteen l)[k]'(by rw [thirteen_len]; exact hk)) hi
      rw [mixT_more hG hk] at hs
      have hw3 : IntKind.i64.wrap (IntKind.i64.wrap (13 * (c : Int)) + (k : Int)) = ((13 * c + k : Nat) : Int) := by rw [hw2, w_i64 (by omega) (by omega)]; omega
      generalize flat Tr.enc (mixT G l c (k + 1)) = c2 at *
      generalize flat Tr.enc (mixT G l c k) = c1 at *
      by_cases hkl : k < l.length
      · rw [thirteen_get hk hkl] at hs
        have hg : ((flat Tr.enc l).drop (k * 3)).take 3 = l[k].enc := by rw [Tr.rd hkl]; rfl
        generalize flat Tr.enc l = cl at *
        generalize l[k] = y at *
        obtain ⟨y1, y2, y3⟩ := y
        refine ⟨nx + 1, ?_⟩
        (have fA := And.intro @pgs (And.intro @l1 (And.intro @hg (And.intro @hs (And.intro @hw3 (@List.drop_zero AV))))); refine gox ?_; clear fA)
        refine head_eq ?_ ?_ rfl
        · simp [wrap_succ hk (by omega)]
        · rw [← hs]; rfl
      · rw [thirteen_out hk hkl] at hs
        refine ⟨nx + 1, ?_⟩
        (have fA := And.intro @pgs (And.intro @l1 (And.intro @hs (And.intro @hw3 (@List.drop_zero AV)))); refine gox ?_; clear fA)
        refine head_eq ?_ ?_ rfl
        · simp [wrap_succ hk (by omega)]
        · rw [← hs]; rfl
    · intro nx
      have l3 := placeT_len l hG
      have l4 : (flat Tr.enc (placeT G l c)).length = G.length * 3 := by rw [Tr.flen, l3]
      have fp2 := Tr.pl (placeT G l c)
      have o3 : (p.setEx (placeT G l c)).Ok := ⟨hp.rows, hp.there, hp.links⟩
      have x3 : ∀ z, (p.setEx (placeT G l c)).enc z = p.enc z := Pg.setEx_enc p _
      have x4 : (p.setEx (placeT G l c)).extra = placeT G l c := rfl
      rw [x3, x4, l3, mixT_all]
      generalize flat Tr.enc (placeT G l c) = c3 at *
      (have fA := And.intro @pgs (And.intro @l4 (And.intro (@List.drop_zero AV) @Nat.add_zero)); refine gox ?_; clear fA)
      (have fA := And.intro @pgs (And.intro @l4 @fp2); refine finx ?_; clear fA; try with_reducible rfl)

end Go.Proofs.Ytimcmpceekbfjaa
