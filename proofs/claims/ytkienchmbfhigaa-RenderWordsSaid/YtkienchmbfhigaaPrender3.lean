/- Functions of the seat, worked off from their code: chunk render3. Written by program (tools/mkp.py) from wip/fn. -/
import Derived.Test.YtkienchmbfhigaaSimT
import Derived.Test.YtkienchmbfhigaaSimY
import Derived.Test.YtkienchmbfhigaaPrender2
set_option maxRecDepth 100000
set_option maxHeartbeats 40000000
set_option linter.unusedSimpArgs false
set_option linter.unusedVariables false
namespace Go.Proofs.Ytkienchmbfhigaa
open Go Go.Sim
attribute [local irreducible] chk brX getX strX setX takeX normX fillX lendX partsX opsX callK lentK lentR giveX adoptX resX joinX headX loopX seqK blkK regK finX exOps ex eqT
attribute [local simp] setR_int setR_bool setR_zero setR_succ repl_int repl_bool List.getElem?_cons_zero List.getElem?_cons_succ List.getElem?_nil w_i64 w_u64 w_u8 bAnd_u8 bOr_u8 bXor_u8 bAndNot_u8 bShl_u8 wrap_u8_range all_plain_int all_plain_bool all_plain_app pl_bool pl_int pl_str pl_nilp pl_nsl pl_nilI pl_nilF take_map_len AV.cells TI.isAgg
attribute [local simp] Cell.flen Cell.rd Cell.g0 Cell.g1 Cell.g2 Cell.g3 Cell.g4 Cell.g5 Cell.g6 Cell.g7 Cell.g8 Cell.g9 Cell.put Cell.pute Cell.s0 Cell.s1 Cell.s2 Cell.s3 Cell.s4 Cell.s5 Cell.s6 Cell.s7 Cell.s8 Cell.s9 Cell.zero Cell.enc Tr.flen Tr.rd Tr.g0 Tr.g1 Tr.g2 Tr.put Tr.pute Tr.s0 Tr.s1 Tr.s2 Tr.zero Tr.enc Sp.flen Sp.rd Sp.g0 Sp.g1 Sp.g2 Sp.put Sp.pute Sp.s0 Sp.s1 Sp.s2 Sp.zero Sp.enc Hd.flen Hd.rd Hd.g0 Hd.g1 Hd.g2 Hd.g3 Hd.g4 Hd.g5 Hd.g6 Hd.g7 Hd.g8 Hd.g9 Hd.g10 Hd.g11 Hd.g12 Hd.g13 Hd.g14 Hd.put Hd.pute Hd.s0 Hd.s1 Hd.s2 Hd.s3 Hd.s4 Hd.s5 Hd.s6 Hd.s7 Hd.s8 Hd.s9 Hd.s10 Hd.s11 Hd.s12 Hd.s13 Hd.s14 Hd.zero Hd.enc

theorem gridF_len (p : Pg) : ((List.range 1000).map (gridF p)).length = 1000 := by simp
def hidB (q : Hd) (r : Nat) : Bool := if r = 0 then q.c3 else q.c6
/-- What a page's cell is before it is shown. -/
def baseC (p : Pg) (i : Nat) : Cell := if hidB p.hd (i / 40) = true then bk else gridF p i
/-- What a page's cell shows. -/
def pageC (p : Pg) (rev mix : Bool) (i : Nat) : Cell := shownC (baseC p i) (p.hd.c1 || p.hd.c2) rev mix
def flC (h : Hd) : List AV := [.bool h.c0, .bool h.c1, .bool h.c2, .bool h.c3, .bool h.c4, .bool h.c5, .bool h.c6, .bool h.c7, .bool h.c8, .bool h.c9, .bool h.c10]
theorem fl_at {p : Pg} {x : AV} (h : p.Ok) : ((p.enc x).drop 3).take 11 = flC p.hd := by
  have e := congrArg (fun l => (l.drop 3).take 11) (Pg.head_at (x := x) h)
  simp only [List.drop_take, List.take_take] at e
  rw [show min 11 (15 - 3) = 11 from rfl] at e
  exact e
theorem flC_1 (h : Hd) : (flC h)[1]? = some (.bool h.c1) := rfl
theorem flC_2 (h : Hd) : (flC h)[2]? = some (.bool h.c2) := rfl
theorem flC_3 (h : Hd) : (flC h)[3]? = some (.bool h.c3) := rfl
theorem flC_6 (h : Hd) : (flC h)[6]? = some (.bool h.c6) := rfl
theorem flC_len (h : Hd) : (flC h).length = 11 := rfl
def pM (p : Pg) (rev mix : Bool) (r : Nat) : List Cell := mixF (pageC p rev mix) (gridF p) 1000 (r * 40)
def bL (p : Pg) (r : Nat) : List Cell := (List.range 40).map fun c => baseC p (r * 40 + c)
def pN (p : Pg) (rev mix : Bool) (r k : Nat) : List Cell := putRow (pM p rev mix r) r (mixF (fun c => pageC p rev mix (r * 40 + c)) (fun c => baseC p (r * 40 + c)) 40 k)
theorem pM_len (p : Pg) (rev mix : Bool) (r : Nat) : (pM p rev mix r).length = 1000 := mixF_len _ _ _ _
theorem bL_len (p : Pg) (r : Nat) : (bL p r).length = 40 := by simp [bL]
theorem pN_len (p : Pg) (rev mix : Bool) {r k : Nat} (hr : r < 25) : (pN p rev mix r k).length = 1000 := by rw [pN, putRow_len (mixF_len _ _ _ _) (by rw [pM_len]; omega), pM_len]
theorem pM_zero (p : Pg) (rev mix : Bool) : pM p rev mix 0 = (List.range 1000).map (gridF p) := by rw [pM, Nat.zero_mul, mixF_zero]
theorem pM_all (p : Pg) (rev mix : Bool) : pM p rev mix 25 = (List.range 1000).map (pageC p rev mix) := by rw [pM, show 25 * 40 = 1000 from rfl, mixF_full]
theorem pN_zero (p : Pg) (rev mix : Bool) (r : Nat) : pN p rev mix r 0 = putRow (pM p rev mix r) r (bL p r) := by rw [pN, mixF_zero]; rfl
theorem pN_all (p : Pg) (rev mix : Bool) {r : Nat} (hr : r < 25) : pN p rev mix r 40 = pM p rev mix (r + 1) := by rw [pN, mixF_full]; exact mix_put _ _ hr rfl
theorem putRow_set {g l : List Cell} {r k : Nat} {y : Cell} (hl : l.length = 40) (hk : k < 40) (h : r * 40 + 40 ≤ g.length) : (putRow g r l).set (r * 40 + k) y = putRow g r (l.set k y) := by
  have e : (g.take (r * 40)).length = r * 40 := by simp; omega
  unfold putRow
  rw [List.set_append_right _ _ (by omega), e, Nat.add_sub_cancel_left, List.set_append_left _ _ (by omega)]
theorem pN_set (p : Pg) (rev mix : Bool) {r k : Nat} (hr : r < 25) (hk : k < 40) : setR (flat Cell.enc (pN p rev mix r k)) (r * 400 + k * 10) (pageC p rev mix (r * 40 + k)).enc = flat Cell.enc (pN p rev mix r (k + 1)) := by
  have h := Cell.pute (xs := pN p rev mix r k) (i := r * 40 + k) (y := pageC p rev mix (r * 40 + k)) (by rw [pN_len p rev mix hr]; omega)
  rw [show (r * 40 + k) * 10 = r * 400 + k * 10 by omega] at h
  rw [h]
  congr 1
  unfold pN
  rw [putRow_set (mixF_len _ _ _ _) hk (by rw [pM_len]; omega)]
  rw [mixF_set (fun c => pageC p rev mix (r * 40 + c)) (fun c => baseC p (r * 40 + c)) 40 k]
theorem pN_row (p : Pg) (rev mix : Bool) {r : Nat} (hr : r < 25) : ((flat Cell.enc (pN p rev mix r 0)).drop (r * 400)).take 400 = flat Cell.enc (bL p r) := by
  rw [cget, pN_zero, putRow_get (bL_len p r) (by rw [pM_len]; omega)]
theorem base_hid {p : Pg} {r : Nat} (h : hidB p.hd r = true) : bL p r = List.replicate 40 bk := by
  apply List.ext_getElem
  · simp [bL]
  · intro i h1 h2
    simp only [List.length_replicate] at h2
    simp only [bL, List.getElem_map, List.getElem_range, List.getElem_replicate, baseC]
    rw [show (r * 40 + i) / 40 = r by omega, if_pos h]
theorem base_not {p : Pg} {r : Nat} (h : hidB p.hd r = false) : bL p r = (List.range 40).map fun c => gridF p (r * 40 + c) := by
  apply List.ext_getElem
  · simp [bL]
  · intro i h1 h2
    simp only [List.length_map, List.length_range] at h2
    simp only [bL, List.getElem_map, List.getElem_range, baseC]
    rw [show (r * 40 + i) / 40 = r by omega, h, if_neg (by decide)]
theorem putRow_same {g : List Cell} {r : Nat} (h : r * 40 + 40 ≤ g.length) : putRow g r ((g.drop (r * 40)).take 40) = g := by
  unfold putRow
  rw [show (g.drop (r * 40)).take 40 ++ g.drop (r * 40 + 40) = g.drop (r * 40) from by rw [← List.drop_drop]; exact List.take_append_drop _ _, List.take_append_drop]
theorem pN_not {p : Pg} (rev mix : Bool) {r : Nat} (hr : r < 25) (h : hidB p.hd r = false) : pN p rev mix r 0 = pM p rev mix r := by
  have e := putRow_same (g := pM p rev mix r) (r := r) (by rw [pM_len]; omega)
  rw [show ((pM p rev mix r).drop (r * 40)).take 40 = bL p r from by rw [pM, mixF_rowget _ _ hr (Nat.le_refl _), base_not h]] at e
  rw [pN_zero, e]
theorem pM_hid {p : Pg} (rev mix : Bool) {r : Nat} (hr : r < 25) (h : hidB p.hd r = true) : setR (flat Cell.enc (pM p rev mix r)) (r * 400) (flat Cell.enc (List.replicate 40 bk)) = flat Cell.enc (pN p rev mix r 0) := by
  rw [cput2 (by simp) (by rw [pM_len]; omega), pN_zero, base_hid h]
theorem bL_get (p : Pg) {r k : Nat} (hk : k < 40) : ((flat Cell.enc (bL p r)).drop (k * 10)).take 10 = (baseC p (r * 40 + k)).enc := by
  have h : k < (bL p r).length := by rw [bL_len]; exact hk
  have e : (bL p r)[k] = baseC p (r * 40 + k) := by simp [bL]
  rw [← e]
  exact Cell.rd h
attribute [local irreducible] pM pN bL flC baseC pageC gridF Pg.enc Hd.enc putRow mixF
theorem t_Page (tag : Nat) (p : Pg) (hp : p.Ok) {x : AV} (hx : ExOK x p.extra) (hl : p.extra.length < 1000000) (rev mix : Bool) : callω L T 10 tag [.agg (p.enc x), .agg [.bool rev, .bool mix]] [none, none] = some (.agg (flat Cell.enc ((List.range 1000).map (pageC p rev mix))), [none, none]) := by
  rw [call_ex (show T 10 = some (.code a10) from rfl) rfl rfl]
  have tr := t_rows (tag + 1) p hp hx hl
  have lg := Cell.flen ((List.range 1000).map (gridF p))
  rw [gridF_len] at lg
  have lf := flC_len p.hd
  have hfl := fl_at (x := x) hp
  have zg := zgrid
  rw [← pM_zero p rev mix] at lg tr
  have lz : (flat Cell.enc (List.replicate 1000 Cell.none)).length = 10000 := by rw [Cell.flen]; simp
  (have fA := And.intro @pgs (And.intro @lg @zg); have c1 := tr; refine gox ?_; clear fA c1)
  refine Eq.trans (head_eq (env' := [(3, .ref 3 (tag, 1 + 1) 0), (4, .ref 4 (tag, 1 + 1 + 1) 0), (5, .ref 5 (tag, 1 + 1 + 1 + 1) 0), (6, .ref 6 (tag, 1 + 1 + 1 + 1 + 1) 0), (15, .int .i64 ((0 : Nat) : Int))]) (heap' := [(3, ⟨(tag, 1 + 1), [.bool rev, .bool mix]⟩), (4, ⟨(tag, 1 + 1 + 1), flat Cell.enc (List.replicate 1000 Cell.none)⟩), (5, ⟨(tag, 1 + 1 + 1 + 1), flat Cell.enc (pM p rev mix 0)⟩), (6, ⟨(tag, 1 + 1 + 1 + 1 + 1), flC p.hd⟩)]) rfl ?_ rfl) ?_
  · rw [hfl, setR_all (by rw [lg, lz]), setR_all (by rw [lf]; rfl)]
  clear tr lg hfl zg
  generalize flat Cell.enc (List.replicate 1000 Cell.none) = z0 at *
  refine headX_upN (fun r nx => ⟨[(3, .ref 3 (tag, 1 + 1) 0), (4, .ref 4 (tag, 1 + 1 + 1) 0), (5, .ref 5 (tag, 1 + 1 + 1 + 1) 0), (6, .ref 6 (tag, 1 + 1 + 1 + 1 + 1) 0), (15, .int .i64 r)], [(3, ⟨(tag, 1 + 1), [.bool rev, .bool mix]⟩), (4, ⟨(tag, 1 + 1 + 1), z0⟩), (5, ⟨(tag, 1 + 1 + 1 + 1), flat Cell.enc (pM p rev mix r)⟩), (6, ⟨(tag, 1 + 1 + 1 + 1 + 1), flC p.hd⟩)], nx, tag⟩) 25 _ ?_ ?_ 0 _ (by omega)
  · intro r nx hr
    have lM := Cell.flen (pM p rev mix r)
    rw [pM_len] at lM
    have lN := Cell.flen (pN p rev mix r 0)
    rw [pN_len p rev mix hr] at lN
    have trw := t_rrow (tag + 1)
    have lb : (flat Cell.enc (List.replicate 40 bk)).length = 400 := by rw [Cell.flen]; simp
    have hrow := pN_row p rev mix hr
    have f1 := flC_1 p.hd
    have f2 := flC_2 p.hd
    have f3 := flC_3 p.hd
    have f6 := flC_6 p.hd
    refine ⟨nx + 40, ?_⟩
    refine goal_join (Q := ?kQ) (fun key => ?kk) ?kb
    case kk =>
      cases hh : hidB p.hd r
      · have e := pN_not rev mix hr hh
        rw [← e]
        by_cases h0 : r = 0
        · have h3 : p.hd.c3 = false := by rw [hidB, if_pos h0] at hh; exact hh
          (have fA := And.intro @lN (And.intro @hrow (And.intro @f3 (And.intro @f6 @lf))); have c1 := trw; refine gox ?_; clear fA c1)
          exact key.out
        · have h6 : p.hd.c6 = false := by rw [hidB, if_neg h0] at hh; exact hh
          (have fA := And.intro @lN (And.intro @hrow (And.intro @f3 (And.intro @f6 @lf))); have c1 := trw; refine gox ?_; clear fA c1)
          exact key.out
      · have e := pM_hid rev mix hr hh
        by_cases h0 : r = 0
        · have h3 : p.hd.c3 = true := by rw [hidB, if_pos h0] at hh; exact hh
          (have fA := And.intro @lM (And.intro @lN (And.intro @lb (And.intro @e (And.intro @hrow (And.intro @f3 (And.intro @f6 @lf)))))); have c1 := trw; refine gox ?_; clear fA c1)
          exact key.out
        · have h6 : p.hd.c6 = true := by rw [hidB, if_neg h0] at hh; exact hh
          (have fA := And.intro @lM (And.intro @lN (And.intro @lb (And.intro @e (And.intro @hrow (And.intro @f3 (And.intro @f6 @lf)))))); have c1 := trw; refine gox ?_; clear fA c1)
          exact key.out
    refine headX_up (fun k => ⟨[(3, .ref 3 (tag, 1 + 1) 0), (4, .ref 4 (tag, 1 + 1 + 1) 0), (5, .ref 5 (tag, 1 + 1 + 1 + 1) 0), (6, .ref 6 (tag, 1 + 1 + 1 + 1 + 1) 0), (7, .int .i64 r), (15, .int .i64 r), (37, .agg (flat Cell.enc (bL p r))), (38, .int .i64 k)], [(3, ⟨(tag, 1 + 1), [.bool rev, .bool mix]⟩), (4, ⟨(tag, 1 + 1 + 1), z0⟩), (5, ⟨(tag, 1 + 1 + 1 + 1), flat Cell.enc (pN p rev mix r k)⟩), (6, ⟨(tag, 1 + 1 + 1 + 1 + 1), flC p.hd⟩)], nx + k, tag⟩) 40 _ ?_ ?_ 0 (by omega)
    · intro k hk
      have l1 := Cell.flen (pN p rev mix r k)
      rw [pN_len p rev mix hr] at l1
      have hs := pN_set p rev mix hr hk
      have hg := bL_get p (r := r) hk
      have lb2 := Cell.flen (bL p r)
      rw [bL_len] at lb2
      have ly := Cell.len
      clear lM lN hrow lb trw f3 f6
      generalize flat Cell.enc (pN p rev mix r (k + 1)) = c2 at *
      generalize flat Cell.enc (pN p rev mix r k) = c1 at *
      generalize flat Cell.enc (bL p r) = cb at *
      cases h1 : p.hd.c1
      · have g1 : (flC p.hd)[1]? = some (.bool false) := by rw [f1, h1]
        cases h2 : p.hd.c2
        · have g2 : (flC p.hd)[2]? = some (.bool false) := by rw [f2, h2]
          have ts := t_shown (tag + 1) (baseC p (r * 40 + k)) false rev mix
          rw [show shownC (baseC p (r * 40 + k)) false rev mix = pageC p rev mix (r * 40 + k) from by rw [pageC, h1, h2]; rfl] at ts
          generalize pageC p rev mix (r * 40 + k) = y at *
          generalize baseC p (r * 40 + k) = y0 at *
          (have fA := And.intro @l1 (And.intro @hs (And.intro @hg (And.intro @g1 (And.intro @g2 (And.intro @lf (And.intro @ly @lb2)))))); have c1 := ts; refine gox ?_; clear fA c1)
          refine head_eq ?_ rfl rfl
          simp [wrap_succ hk (by omega)]
        · have g2 : (flC p.hd)[2]? = some (.bool true) := by rw [f2, h2]
          have ts := t_shown (tag + 1) (baseC p (r * 40 + k)) true rev mix
          rw [show shownC (baseC p (r * 40 + k)) true rev mix = pageC p rev mix (r * 40 + k) from by rw [pageC, h1, h2]; rfl] at ts
          generalize pageC p rev mix (r * 40 + k) = y at *
          generalize baseC p (r * 40 + k) = y0 at *
          (have fA := And.intro @l1 (And.intro @hs (And.intro @hg (And.intro @g1 (And.intro @g2 (And.intro @lf (And.intro @ly @lb2)))))); have c1 := ts; refine gox ?_; clear fA c1)
          refine head_eq ?_ rfl rfl
          simp [wrap_succ hk (by omega)]
      · have g1 : (flC p.hd)[1]? = some (.bool true) := by rw [f1, h1]
        have g2 := f2
        have ts := t_shown (tag + 1) (baseC p (r * 40 + k)) true rev mix
        rw [show shownC (baseC p (r * 40 + k)) true rev mix = pageC p rev mix (r * 40 + k) from by rw [pageC, h1]; rfl] at ts
        generalize pageC p rev mix (r * 40 + k) = y at *
        generalize baseC p (r * 40 + k) = y0 at *
        (have fA := And.intro @l1 (And.intro @hs (And.intro @hg (And.intro @g1 (And.intro @g2 (And.intro @lf (And.intro @ly @lb2)))))); have c1 := ts; refine gox ?_; clear fA c1)
        refine head_eq ?_ rfl rfl
        simp [wrap_succ hk (by omega)]
    · have hN := pN_all p rev mix hr
      rw [hN]
      (have fA := @lf; refine gox ?_; clear fA)
      refine head_eq ?_ rfl rfl
      simp [wrap_succ hr (by omega)]
  · intro nx
    rw [pM_all]
    have l2 : (flat Cell.enc ((List.range 1000).map (pageC p rev mix))).length = 10000 := by rw [Cell.flen]; simp
    have tl : (flat Cell.enc ((List.range 1000).map (pageC p rev mix))).take 10000 = flat Cell.enc ((List.range 1000).map (pageC p rev mix)) := List.take_of_length_le (by omega)
    have hpl := Cell.pl ((List.range 1000).map (pageC p rev mix))
    generalize flat Cell.enc ((List.range 1000).map (pageC p rev mix)) = c1 at *
    have sa : setR z0 0 c1 = c1 := setR_all (by omega)
    (have fA := And.intro @l2 (And.intro @tl (And.intro @sa @lz)); refine gox ?_; clear fA)
    (have fA := And.intro @l2 (And.intro @tl (And.intro @hpl (And.intro @sa @lz))); refine finx ?_; clear fA; try with_reducible rfl)

end Go.Proofs.Ytkienchmbfhigaa
