/- Functions of the seat, worked off from their code: chunk page7. Written by program (tools/mkp.py) from wip/fn. -/
import Derived.Test.YtimcmpceekbfjaaSimT
import Derived.Test.YtimcmpceekbfjaaSimY
import Derived.Test.YtimcmpceekbfjaaPpage6
set_option maxRecDepth 100000
set_option maxHeartbeats 40000000
set_option linter.unusedSimpArgs false
set_option linter.unusedVariables false
namespace Go.Proofs.Ytimcmpceekbfjaa
open Go Go.Sim
attribute [local irreducible] chk brX getX strX setX takeX normX fillX lendX partsX opsX callK lentK giveX adoptX resX joinX headX loopX seqK blkK regK finX exOps ex eqT
attribute [local simp] setR_int setR_bool setR_zero setR_succ repl_int repl_bool List.getElem?_cons_zero List.getElem?_cons_succ List.getElem?_nil w_i64 w_u64 w_u8 bAnd_u8 bOr_u8 bXor_u8 bAndNot_u8 bShl_u8 wrap_u8_range all_plain_int all_plain_bool all_plain_app pl_bool pl_int pl_str pl_nilp pl_nsl pl_nilI pl_nilF take_map_len AV.cells TI.isAgg
attribute [local simp] Tr.flen Tr.rd Tr.g0 Tr.g1 Tr.g2 Tr.put Tr.pute Tr.s0 Tr.s1 Tr.s2 Tr.zero Tr.enc Hd.flen Hd.rd Hd.g0 Hd.g1 Hd.g2 Hd.g3 Hd.g4 Hd.g5 Hd.g6 Hd.g7 Hd.g8 Hd.g9 Hd.g10 Hd.g11 Hd.g12 Hd.g13 Hd.g14 Hd.put Hd.pute Hd.s0 Hd.s1 Hd.s2 Hd.s3 Hd.s4 Hd.s5 Hd.s6 Hd.s7 Hd.s8 Hd.s9 Hd.s10 Hd.s11 Hd.s12 Hd.s13 Hd.s14 Hd.zero Hd.enc

def rep8 (k : Nat) : List AV := (List.replicate k 32).map (.int .u8)
theorem rep8_len (k : Nat) : (rep8 k).length = k := by simp [rep8]
theorem rep8_more (k : Nat) : rep8 k ++ [.int .u8 32] = rep8 (k + 1) := by
  unfold rep8
  rw [← List.replicate_append_replicate, List.map_append]; rfl
theorem rep8_all : rep8 8 = (List.replicate 8 32).map (.int .u8) := rfl
attribute [local irreducible] Pg.enc
theorem t_NewPage (tag : Nat) (h : Hd) (text : List Int) (ht : text.length < 900000) (hb : ∀ x ∈ text, 0 ≤ x ∧ x < 256) (old : Pg) (ho : old.Ok) {x : AV} (hx : ExOK x old.extra) (hl : old.extra.length < 1000000) (had : Bool) :
    callω L T 23 tag [.agg h.enc, .isl 1 text.length (text.map (.int .u8)), .agg (old.enc x), .bool had] [none, none, none, none] = some (.agg ((newF h text old had).enc (newX h old had)), [none, none, none, none]) := by
  rw [call_ex (show T 23 = some (.code a23) from rfl) rfl rfl]
  have tc := t_TripledX (tag + 1) hx hl
  have oz := Pg.none_ok
  have fl := Tr.flen old.extra
  have fp := Tr.pl old.extra
  have tm := t_ref1_MakeOdd (tag + 1) 32
  rw [show makeOddI 32 = 32 from by decide] at tm
  have bl := blk8_len text
  have bm := blk8_map text
  unfold newF newX
  obtain ⟨q, hq, eq1, eq2⟩ : ∃ q : Pg, q.Ok ∧ (¬ (had = true ∧ h.c0 = false) → q = Pg.none) ∧ ((had = true ∧ h.c0 = false) → q = old) := by
    by_cases c : had = true ∧ h.c0 = false
    · exact ⟨old, ho, fun n => absurd c n, fun _ => rfl⟩
    · exact ⟨Pg.none, oz, fun _ => rfl, fun n => absurd n c⟩
  have o1 : (q.setHd h).Ok := Pg.setHd_ok hq
  have tg := t_r12_Merge (tag + 1) ((q.setHd h).row 0) (blk8 text) ((q.setHd h).is 0) (Pg.row_len o1 (by omega)) (by have := blk8_len text; omega) (blk8_rng hb)
  rw [bl] at tg
  have lm := mrg_len ((q.setHd h).row 0) (blk8 text) ((q.setHd h).is 0)
  have o2 : ((q.setHd h).setRow 0 (mrg ((q.setHd h).row 0) (blk8 text) ((q.setHd h).is 0))).Ok := Pg.setRow_ok o1 (by omega) lm
  have o4 := Pg.setThere_ok (r := 0) (b := true) o2
  have o3 : headF q h text = ((q.setHd h).setRow 0 (mrg ((q.setHd h).row 0) (blk8 text) ((q.setHd h).is 0))).setThere 0 true := rfl
  generalize mrg ((q.setHd h).row 0) (blk8 text) ((q.setHd h).is 0) = m at *
  have dl : ((blk8 text).map (AV.int .u8)).length = 8 + text.length := by rw [List.length_map, bl]
  generalize (blk8 text).map (AV.int .u8) = db at *
  have tkd : db.take (8 + text.length) = db := List.take_of_length_le (by omega)
  refine goal_join (Q := ?kQ) (fun key => ?kk) ?kb
  case kk =>
    refine goal_join (Q := ?kR) (fun key2 => ?kk2) ?kb2
    case kk2 =>
      cases had
      · rw [if_neg (by simp), if_neg (by simp), show headF Pg.none h text = headF q h text from by rw [eq1 (by simp)], o3]
        have e := eq1 (by simp)
        rcases hx with rfl | ⟨rfl, he⟩
        · skip
          (have fA := And.intro @pgs (And.intro @pgs0 (And.intro @Int.toNat_zero (And.intro @Nat.zero_mul (And.intro @Nat.add_zero (And.intro @Pg.zero_eq @fl))))); have c1 := tc; refine gox ?_; clear fA c1)
          refine Eq.trans (head_eq (env' := [(1, .isl 1 text.length (text.map (.int .u8))), (8, .ref 8 (tag, 1 + 1 + 1) 0), (9, .ref 9 (tag, 1 + 1 + 1 + 1) 0), (10, .msl 10 (tag, 1 + 1 + 1 + 1 + 1) 1 0 0), (11, .int .i64 ((0 : Nat) : Int))]) (heap' := [(8, ⟨(tag, 1 + 1 + 1), Pg.none.enc .nsl⟩), (9, ⟨(tag, 1 + 1 + 1 + 1), (q.setHd h).enc .nsl⟩), (10, ⟨(tag, 1 + 1 + 1 + 1 + 1), []⟩)]) rfl (by rw [e]) rfl) ?_
          exact key.out
        · skip
          (have fA := And.intro @pgs (And.intro @pgs0 (And.intro @Int.toNat_zero (And.intro @Nat.zero_mul (And.intro @Nat.add_zero (And.intro @Pg.zero_eq @fl))))); have c1 := tc; refine gox ?_; clear fA c1)
          refine Eq.trans (head_eq (env' := [(1, .isl 1 text.length (text.map (.int .u8))), (8, .ref 8 (tag, 1 + 1 + 1) 0), (9, .ref 9 (tag, 1 + 1 + 1 + 1) 0), (10, .msl 10 (tag, 1 + 1 + 1 + 1 + 1) 1 0 0), (11, .int .i64 ((0 : Nat) : Int))]) (heap' := [(8, ⟨(tag, 1 + 1 + 1), Pg.none.enc .nsl⟩), (9, ⟨(tag, 1 + 1 + 1 + 1), (q.setHd h).enc .nsl⟩), (10, ⟨(tag, 1 + 1 + 1 + 1 + 1), []⟩)]) rfl (by rw [e]) rfl) ?_
          exact key.out
      · cases hc : h.c0
        · rw [if_pos (by simp), if_pos (by simp), show headF old h text = headF q h text from by rw [eq2 ⟨rfl, hc⟩], o3]
          have e := eq2 ⟨rfl, hc⟩
          rcases hx with rfl | ⟨rfl, he⟩
          · skip
            (have fA := And.intro @pgs (And.intro @pgs0 (And.intro @Int.toNat_zero (And.intro @Nat.zero_mul (And.intro @Nat.add_zero (And.intro @Pg.zero_eq @fl))))); have c1 := tc; refine gox ?_; clear fA c1)
            refine Eq.trans (head_eq (env' := [(1, .isl 1 text.length (text.map (.int .u8))), (8, .ref 8 (tag, 1 + 1 + 1) 0), (9, .ref 9 (tag, 1 + 1 + 1 + 1) 0), (10, .msl 10 (tag, 1 + 1 + 1 + 1 + 1 + 1) 1 0 0), (11, .int .i64 ((0 : Nat) : Int))]) (heap' := [(8, ⟨(tag, 1 + 1 + 1), Pg.none.enc .nsl⟩), (9, ⟨(tag, 1 + 1 + 1 + 1), (q.setHd h).enc (.msl 22 (tag, 5) 3 0 old.extra.length)⟩), (10, ⟨(tag, 1 + 1 + 1 + 1 + 1 + 1), []⟩), (22, ⟨(tag, 1 + 1 + 1 + 1 + 1), flat Tr.enc old.extra⟩)]) rfl (by rw [e]) rfl) ?_
            exact key2.out
          · skip
            (have fA := And.intro @pgs (And.intro @pgs0 (And.intro @Int.toNat_zero (And.intro @Nat.zero_mul (And.intro @Nat.add_zero (And.intro @Pg.zero_eq @fl))))); have c1 := tc; refine gox ?_; clear fA c1)
            refine Eq.trans (head_eq (env' := [(1, .isl 1 text.length (text.map (.int .u8))), (8, .ref 8 (tag, 1 + 1 + 1) 0), (9, .ref 9 (tag, 1 + 1 + 1 + 1) 0), (10, .msl 10 (tag, 1 + 1 + 1 + 1 + 1 + 1) 1 0 0), (11, .int .i64 ((0 : Nat) : Int))]) (heap' := [(8, ⟨(tag, 1 + 1 + 1), Pg.none.enc .nsl⟩), (9, ⟨(tag, 1 + 1 + 1 + 1), (q.setHd h).enc (.msl 22 (tag, 5) 3 0 old.extra.length)⟩), (10, ⟨(tag, 1 + 1 + 1 + 1 + 1 + 1), []⟩), (22, ⟨(tag, 1 + 1 + 1 + 1 + 1), flat Tr.enc old.extra⟩)]) rfl (by rw [e]) rfl) ?_
            exact key2.out
        · rw [if_neg (by simp), if_neg (by simp), show headF Pg.none h text = headF q h text from by rw [eq1 (by simp [hc])], o3]
          have e := eq1 (by simp [hc])
          rcases hx with rfl | ⟨rfl, he⟩
          · skip
            (have fA := And.intro @pgs (And.intro @pgs0 (And.intro @Int.toNat_zero (And.intro @Nat.zero_mul (And.intro @Nat.add_zero (And.intro @Pg.zero_eq @fl))))); have c1 := tc; refine gox ?_; clear fA c1)
            refine Eq.trans (head_eq (env' := [(1, .isl 1 text.length (text.map (.int .u8))), (8, .ref 8 (tag, 1 + 1 + 1) 0), (9, .ref 9 (tag, 1 + 1 + 1 + 1) 0), (10, .msl 10 (tag, 1 + 1 + 1 + 1 + 1) 1 0 0), (11, .int .i64 ((0 : Nat) : Int))]) (heap' := [(8, ⟨(tag, 1 + 1 + 1), Pg.none.enc .nsl⟩), (9, ⟨(tag, 1 + 1 + 1 + 1), (q.setHd h).enc .nsl⟩), (10, ⟨(tag, 1 + 1 + 1 + 1 + 1), []⟩)]) rfl (by rw [e]) rfl) ?_
            exact key.out
          · skip
            (have fA := And.intro @pgs (And.intro @pgs0 (And.intro @Int.toNat_zero (And.intro @Nat.zero_mul (And.intro @Nat.add_zero (And.intro @Pg.zero_eq @fl))))); have c1 := tc; refine gox ?_; clear fA c1)
            refine Eq.trans (head_eq (env' := [(1, .isl 1 text.length (text.map (.int .u8))), (8, .ref 8 (tag, 1 + 1 + 1) 0), (9, .ref 9 (tag, 1 + 1 + 1 + 1) 0), (10, .msl 10 (tag, 1 + 1 + 1 + 1 + 1) 1 0 0), (11, .int .i64 ((0 : Nat) : Int))]) (heap' := [(8, ⟨(tag, 1 + 1 + 1), Pg.none.enc .nsl⟩), (9, ⟨(tag, 1 + 1 + 1 + 1), (q.setHd h).enc .nsl⟩), (10, ⟨(tag, 1 + 1 + 1 + 1 + 1), []⟩)]) rfl (by rw [e]) rfl) ?_
            exact key.out
    case kb2 =>
      clear eq1 eq2 o3 tc hx
      refine headX_for (fun _ (_ : Nat × Nat) => True) (fun k (x : Nat × Nat) => ⟨[(1, .isl 1 text.length (text.map (.int .u8))), (8, .ref 8 (tag, 1 + 1 + 1) 0), (9, .ref 9 (tag, 1 + 1 + 1 + 1) 0), (10, .msl 10 (tag, x.1) 1 0 k), (11, .int .i64 k)], [(8, ⟨(tag, 1 + 1 + 1), Pg.none.enc .nsl⟩), (9, ⟨(tag, 1 + 1 + 1 + 1), (q.setHd h).enc (.msl 22 (tag, 5) 3 0 old.extra.length)⟩), (10, ⟨(tag, x.1), rep8 k⟩), (22, ⟨(tag, 1 + 1 + 1 + 1 + 1), flat Tr.enc old.extra⟩)], x.2, tag⟩) 8 _ ?_ ?_ (1 + 1 + 1 + 1 + 1 + 1, 1 + 1 + 1 + 1 + 1 + 1 + 1) trivial
      · rintro k ⟨g, nx⟩ hk - ih
        dsimp only at ih ⊢
        refine Eq.trans ?_ (ih (nx + 1, nx + 1 + 1) trivial)
        have hl := rep8_len k
        have hm := rep8_more k
        clear ih
        generalize rep8 (k + 1) = c2 at *
        generalize rep8 k = c1 at *
        (have fA := And.intro @hl (@List.drop_zero AV); have c1 := tm; refine gox ?_; clear fA c1)
        refine head_eq ?_ (by rw [← hm]; rfl) rfl
        simp [wrap_succ hk (by omega)]
      · rintro ⟨g, nx⟩ -
        have h8 := rep8_all
        have l8 : (rep8 8).length = 8 := rep8_len 8
        dsimp only
        rw [← h8] at bm
        generalize rep8 8 = c8 at *
        (have fA := And.intro @pgs (And.intro @pgs0 (And.intro @Int.toNat_zero (And.intro @Nat.zero_mul (And.intro @Nat.add_zero (And.intro (@List.drop_zero AV) (And.intro @l8 (And.intro @bm (And.intro @dl @tkd)))))))); have c1 := tg; refine gox ?_; clear fA c1)
        (have fA := And.intro @pgs (And.intro @pgs0 (And.intro @fl @fp)); refine finx ?_; clear fA; try with_reducible rfl)
  case kb =>
    clear eq1 eq2 o3 tc hx
    refine headX_for (fun _ (_ : Nat × Nat) => True) (fun k (x : Nat × Nat) => ⟨[(1, .isl 1 text.length (text.map (.int .u8))), (8, .ref 8 (tag, 1 + 1 + 1) 0), (9, .ref 9 (tag, 1 + 1 + 1 + 1) 0), (10, .msl 10 (tag, x.1) 1 0 k), (11, .int .i64 k)], [(8, ⟨(tag, 1 + 1 + 1), Pg.none.enc .nsl⟩), (9, ⟨(tag, 1 + 1 + 1 + 1), (q.setHd h).enc .nsl⟩), (10, ⟨(tag, x.1), rep8 k⟩)], x.2, tag⟩) 8 _ ?_ ?_ (1 + 1 + 1 + 1 + 1, 1 + 1 + 1 + 1 + 1 + 1) trivial
    · rintro k ⟨g, nx⟩ hk - ih
      dsimp only at ih ⊢
      refine Eq.trans ?_ (ih (nx + 1, nx + 1 + 1) trivial)
      have hl := rep8_len k
      have hm := rep8_more k
      clear ih
      generalize rep8 (k + 1) = c2 at *
      generalize rep8 k = c1 at *
      (have fA := And.intro @hl (@List.drop_zero AV); have c1 := tm; refine gox ?_; clear fA c1)
      refine head_eq ?_ (by rw [← hm]; rfl) rfl
      simp [wrap_succ hk (by omega)]
    · rintro ⟨g, nx⟩ -
      have h8 := rep8_all
      have l8 : (rep8 8).length = 8 := rep8_len 8
      dsimp only
      rw [← h8] at bm
      generalize rep8 8 = c8 at *
      (have fA := And.intro @pgs (And.intro @pgs0 (And.intro @Int.toNat_zero (And.intro @Nat.zero_mul (And.intro @Nat.add_zero (And.intro (@List.drop_zero AV) (And.intro @l8 (And.intro @bm (And.intro @dl @tkd)))))))); have c1 := tg; refine gox ?_; clear fA c1)
      (have fA := And.intro @pgs (And.intro @pgs0 (And.intro @fl @fp)); refine finx ?_; clear fA; try with_reducible rfl)

end Go.Proofs.Ytimcmpceekbfjaa
