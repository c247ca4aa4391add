/- Functions of the seat, worked off from their code: chunk render2. Written by program (tools/mkp.py) from wip/fn. -/
import Derived.Test.YtkienchmbfhigaaSimT
import Derived.Test.YtkienchmbfhigaaSimY
import Derived.Test.YtkienchmbfhigaaPrender1
import Derived.Test.YtkienchmbfhigaaPattr3
import Derived.Test.YtkienchmbfhigaaPover2
import Derived.Test.YtkienchmbfhigaaPpage4
set_option maxRecDepth 100000
set_option maxHeartbeats 40000000
set_option linter.unusedSimpArgs false
set_option linter.unusedVariables false
namespace Go.Proofs.Ytkienchmbfhigaa
open Go Go.Sim
attribute [local irreducible] chk brX getX strX setX takeX normX fillX lendX partsX opsX callK lentK lentR giveX adoptX resX joinX headX loopX seqK blkK regK finX exOps ex eqT
attribute [local simp] setR_int setR_bool setR_zero setR_succ repl_int repl_bool List.getElem?_cons_zero List.getElem?_cons_succ List.getElem?_nil w_i64 w_u64 w_u8 bAnd_u8 bOr_u8 bXor_u8 bAndNot_u8 bShl_u8 wrap_u8_range all_plain_int all_plain_bool all_plain_app pl_bool pl_int pl_str pl_nilp pl_nsl pl_nilI pl_nilF take_map_len AV.cells TI.isAgg
attribute [local simp] Cell.flen Cell.rd Cell.g0 Cell.g1 Cell.g2 Cell.g3 Cell.g4 Cell.g5 Cell.g6 Cell.g7 Cell.g8 Cell.g9 Cell.put Cell.pute Cell.s0 Cell.s1 Cell.s2 Cell.s3 Cell.s4 Cell.s5 Cell.s6 Cell.s7 Cell.s8 Cell.s9 Cell.zero Cell.enc Tr.flen Tr.rd Tr.g0 Tr.g1 Tr.g2 Tr.put Tr.pute Tr.s0 Tr.s1 Tr.s2 Tr.zero Tr.enc Sp.flen Sp.rd Sp.g0 Sp.g1 Sp.g2 Sp.put Sp.pute Sp.s0 Sp.s1 Sp.s2 Sp.zero Sp.enc Hd.flen Hd.rd Hd.g0 Hd.g1 Hd.g2 Hd.g3 Hd.g4 Hd.g5 Hd.g6 Hd.g7 Hd.g8 Hd.g9 Hd.g10 Hd.g11 Hd.g12 Hd.g13 Hd.g14 Hd.put Hd.pute Hd.s0 Hd.s1 Hd.s2 Hd.s3 Hd.s4 Hd.s5 Hd.s6 Hd.s7 Hd.s8 Hd.s9 Hd.s10 Hd.s11 Hd.s12 Hd.s13 Hd.s14 Hd.zero Hd.enc

def regF (p : Pg) : Int := if p.dflt ≤ 0 then optI 0 p.hd.opt else optI (IntKind.i64.wrap (p.dflt - 1)) p.hd.opt
theorem dflt_at {p : Pg} {x : AV} (h : p.Ok) : (p.enc x)[1060]? = some (.int .i64 p.dflt) := by
  have e := congrArg (fun l => l[19]?) (Pg.post_at (x := x) h)
  simp only [List.getElem?_drop, Nat.reduceAdd] at e
  rw [e, Pg.post, List.getElem?_append_right (by simp [h.links])]
  simp [h.links]
theorem hopt_at {p : Pg} {x : AV} (h : p.Ok) : (p.enc x)[14]? = some (.int .i64 p.hd.opt) := by
  have e := congrArg (fun l => l[14]?) (Pg.head_at (x := x) h)
  simp only [List.getElem?_take_of_lt (show 14 < 15 by omega)] at e
  rw [e]; rfl
theorem t_SpotsN : True := trivial
attribute [local irreducible] Pg.enc Hd.enc
theorem t_Region (tag : Nat) (p : Pg) (hp : p.Ok) {x : AV} (hx : ExOK x p.extra) : callω L T 29 tag [.agg (p.enc x)] [none] = some (.int .i64 (regF p), [none]) := by
  rw [call_ex (show T 29 = some (.code a29) from rfl) rfl rfl]
  unfold regF
  have d := dflt_at (x := x) hp
  have o := hopt_at (x := x) hp
  by_cases h : p.dflt ≤ 0
  · rw [if_pos h]
    (have fA := And.intro @pgs (And.intro @d (And.intro @o @Hd.len)); have c1 := fun x1 => t_Option x1 0 p.hd.opt; refine gox ?_; clear fA c1)
    (refine finx ?_; try with_reducible rfl)
  · rw [if_neg h]
    (have fA := And.intro @pgs (And.intro @d (And.intro @o @Hd.len)); have c1 := fun x1 => t_Option x1 (IntKind.i64.wrap (p.dflt - 1)) p.hd.opt; refine gox ?_; clear fA c1)
    (refine finx ?_; try with_reducible rfl)
theorem t_SpotsX (tag : Nat) {x : AV} {l : List Tr} (hx : ExOK x l) (hl : l.length < 1000000) : callω L T 30 tag [x] [none] = some (.fsl 3 (spotsF l (-1)).length (flat Sp.enc (spotsF l (-1))), [none]) := by
  rcases hx with rfl | ⟨rfl, rfl⟩
  · exact t_Spots tag l hl
  · rw [call_ex (show T 30 = some (.code a30) from rfl) rfl rfl]
    (refine gox ?_)
    refine Eq.trans headX_go ?_
    (refine gox ?_)
    (refine finx ?_; try with_reducible rfl)
    try rfl
def layC (row : Int) (cs : List Cell) (s : Sp) : List Cell := if s.row = row ∧ 0 ≤ s.col ∧ s.col < 40 then cs.set s.col.toNat { cs.getD s.col.toNat Cell.none with glyph := s.glyph } else cs
def layF (row : Int) (cs : List Cell) (l : List Sp) : List Cell := l.foldl (layC row) cs
theorem layC_len (row : Int) (cs : List Cell) (s : Sp) : (layC row cs s).length = cs.length := by
  unfold layC
  split <;> simp
theorem layF_len (row : Int) : ∀ (l : List Sp) (cs : List Cell), (layF row cs l).length = cs.length
  | [], _ => rfl
  | s :: l, cs => by
    show (layF row (layC row cs s) l).length = _
    rw [layF_len row l, layC_len]
theorem layF_nil (row : Int) (cs : List Cell) : layF row cs [] = cs := rfl
theorem t_Lay (tag : Nat) (cs : List Cell) (hc : cs.length = 40) (row : Int) (l : List Sp) (hl : l.length < 1000000) : callω L T 34 tag [.agg (flat Cell.enc cs), .int .i64 row, .isl 3 l.length (flat Sp.enc l)] [none, none, none] = some (.agg (flat Cell.enc (layF row cs l)), [none, none, none]) := by
  rw [call_ex (show T 34 = some (.code a34) from rfl) rfl rfl]
  have lc := Cell.flen cs
  (have fA := And.intro @lc @hc; refine gox ?_; clear fA)
  refine Eq.trans (head_eq (heap' := [(3, ⟨(tag, 1), flat Cell.enc cs⟩), (6, ⟨(tag, 1 + 1), flat Cell.enc (List.replicate 40 Cell.none)⟩)]) rfl (by rw [← Cell.zero]) rfl) ?_
  have lz : (flat Cell.enc (List.replicate 40 Cell.none)).length = 400 := by rw [Cell.flen]; simp
  generalize flat Cell.enc (List.replicate 40 Cell.none) = z0 at *
  clear lc
  refine headX_fold (fun _ (x : List Cell × Nat) => x.1.length = 40) (fun k (x : List Cell × Nat) => ⟨[(1, .int .i64 row), (3, .ref 3 (tag, 1) 0), (6, .ref 6 (tag, 1 + 1) 0), (9, .isl 3 l.length (flat Sp.enc l)), (10, .int .i64 l.length), (11, .int .i64 k)], [(3, ⟨(tag, 1), flat Cell.enc x.1⟩), (6, ⟨(tag, 1 + 1), z0⟩)], x.2, tag⟩) l (fun rest x => some (.agg (flat Cell.enc (layF row x.1 rest)), [none, none, none])) ?_ ?_ (cs, 1 + 1 + 1) hc
  · rintro k ⟨c, nx⟩ hk hcl ih
    dsimp only at hcl ih ⊢
    have l1 := Cell.flen c
    have hrd := Sp.rd hk
    have hfl := Sp.flen l
    rw [show layF row c (l[k] :: l.drop (k + 1)) = layF row (layC row c l[k]) (l.drop (k + 1)) from rfl]
    refine Eq.trans ?_ (ih (layC row c l[k], nx + 1) (by rw [layC_len]; exact hcl))
    clear ih
    unfold layC
    generalize flat Sp.enc l = cl at *
    generalize l[k] = s at *
    obtain ⟨sr, sc, sg⟩ := s
    dsimp only at hrd ⊢
    by_cases h1 : sr = row
    · by_cases h2 : 0 ≤ sc
      · by_cases h3 : sc < 40
        · rw [if_pos ⟨h1, h2, h3⟩]
          obtain ⟨j, rfl⟩ : ∃ j : Nat, sc = j := ⟨sc.toNat, by omega⟩
          simp only [Int.toNat_natCast]
          have hj : j < c.length := by omega
          have hs := Cell.s0 (v := sg) hj
          rw [show c.getD j Cell.none = c[j] from by rw [List.getD_eq_getElem?_getD, List.getElem?_eq_getElem hj]; rfl]
          generalize flat Cell.enc (c.set j { c[j] with glyph := sg }) = c2 at *
          generalize flat Cell.enc c = c1 at *
          (have fA := And.intro @l1 (And.intro @hrd (And.intro @hfl (And.intro @hs @hcl))); refine gox ?_; clear fA)
          refine head_eq ?_ ?_ rfl
          · simp [wrap_succ hk (by omega)]
          · first | rfl | rw [← hs]; rfl
        · rw [if_neg (by omega)]
          generalize flat Cell.enc c = c1 at *
          (have fA := And.intro @l1 (And.intro @hrd (And.intro @hfl @hcl)); refine gox ?_; clear fA)
          refine head_eq ?_ rfl rfl
          simp [wrap_succ hk (by omega)]
      · rw [if_neg (by omega)]
        generalize flat Cell.enc c = c1 at *
        (have fA := And.intro @l1 (And.intro @hrd (And.intro @hfl @hcl)); refine gox ?_; clear fA)
        refine head_eq ?_ rfl rfl
        simp [wrap_succ hk (by omega)]
    · rw [if_neg (by omega)]
      generalize flat Cell.enc c = c1 at *
      (have fA := And.intro @l1 (And.intro @hrd (And.intro @hfl @hcl)); refine gox ?_; clear fA)
      refine head_eq ?_ rfl rfl
      simp [wrap_succ hk (by omega)]
  · rintro ⟨c, nx⟩ hcl
    dsimp only at hcl ⊢
    rw [layF_nil]
    have l1 := Cell.flen c
    have tl : (flat Cell.enc c).take 400 = flat Cell.enc c := List.take_of_length_le (by omega)
    have hp := Cell.pl c
    generalize flat Cell.enc c = c1 at *
    have sa : setR z0 0 c1 = c1 := setR_all (by omega)
    (have fA := And.intro @l1 (And.intro @tl (And.intro @sa (And.intro @lz @hcl))); refine gox ?_; clear fA)
    (have fA := And.intro @l1 (And.intro @tl (And.intro @hp (And.intro @sa (And.intro @lz @hcl)))); refine finx ?_; clear fA; try with_reducible rfl)
def rowR (p : Pg) (r : Nat) : List Cell := layF r (rowL (lineF p r) (regF p) 40) (spotsF p.extra (-1))
/-- Is row r the lower part of the row above it? -/
def upF (p : Pg) : Nat → Bool
  | 0 => false
  | r + 1 => if upF p r = true then false else if r = 0 ∨ 23 < r then false else tallF (lineF p r) (regF p) 40
def gridR (p : Pg) : Nat → List Cell
  | 0 => (rowR p 0).map fl0
  | r + 1 => if upF p (r + 1) = true then (gridR p r).map lowC else if 23 < r + 1 then (rowR p (r + 1)).map fl0 else rowR p (r + 1)
theorem rowR_len (p : Pg) (r : Nat) : (rowR p r).length = 40 := by rw [rowR, layF_len, rowL_len]
theorem gridR_len (p : Pg) : ∀ r, (gridR p r).length = 40
  | 0 => by simp [gridR, rowR_len]
  | r + 1 => by
    unfold gridR
    split
    · rw [List.length_map, gridR_len p r]
    · split <;> simp [rowR_len]
def gridF (p : Pg) (i : Nat) : Cell := (gridR p (i / 40)).getD (i % 40) Cell.none
theorem gridF_row (p : Pg) (r : Nat) : (List.range 40).map (fun c => gridF p (r * 40 + c)) = gridR p r := by
  apply List.ext_getElem
  · simp [gridR_len]
  · intro i h1 h2
    simp only [List.length_map, List.length_range] at h1
    simp only [List.getElem_map, List.getElem_range, gridF]
    rw [show (r * 40 + i) / 40 = r by omega, show (r * 40 + i) % 40 = i by omega, List.getD_eq_getElem?_getD, List.getElem?_eq_getElem h2]; rfl
def putRow (g : List Cell) (r : Nat) (l : List Cell) : List Cell := g.take (r * 40) ++ (l ++ g.drop (r * 40 + 40))
theorem putRow_len {g l : List Cell} {r : Nat} (hl : l.length = 40) (h : r * 40 + 40 ≤ g.length) : (putRow g r l).length = g.length := by simp [putRow, hl]; omega
theorem putRow_get {g l : List Cell} {r : Nat} (hl : l.length = 40) (h : r * 40 + 40 ≤ g.length) : ((putRow g r l).drop (r * 40)).take 40 = l := by
  have e : (g.take (r * 40)).length = r * 40 := by simp; omega
  unfold putRow
  rw [List.drop_append, List.drop_eq_nil_of_le (by omega), e, Nat.sub_self, List.drop_zero, List.nil_append, List.take_append_of_le_length (by omega), List.take_of_length_le (by omega)]
theorem putRow_put {g l l' : List Cell} {r : Nat} (hl : l.length = 40) (h : r * 40 + 40 ≤ g.length) : putRow (putRow g r l) r l' = putRow g r l' := by
  have e : (g.take (r * 40)).length = r * 40 := by simp; omega
  unfold putRow
  rw [List.take_append_of_le_length (by omega), List.take_of_length_le (by omega), List.drop_append, List.drop_eq_nil_of_le (by omega), e, Nat.add_sub_cancel_left, List.drop_append, List.drop_eq_nil_of_le (by omega), hl, Nat.sub_self, List.drop_zero]
  rfl
theorem cput2 {g l : List Cell} {r : Nat} (hl : l.length = 40) (h : r * 40 + 40 ≤ g.length) : setR (flat Cell.enc g) (r * 400) (flat Cell.enc l) = flat Cell.enc (putRow g r l) := cput hl h
theorem mix_put (f g : Nat → Cell) {r : Nat} (hr : r < 25) {l : List Cell} (hl : (List.range 40).map (fun c => f (r * 40 + c)) = l) : putRow (mixF f g 1000 (r * 40)) r l = mixF f g 1000 ((r + 1) * 40) := by
  subst hl
  rw [show (r + 1) * 40 = r * 40 + 40 by omega]
  exact mixF_row f g hr
theorem zr40 : (repl 40 [AV.int IntKind.i64 0, AV.int IntKind.i64 0, AV.int IntKind.i64 0, AV.bool false, AV.bool false, AV.bool false, AV.bool false, AV.bool false, AV.int IntKind.i64 0, AV.int IntKind.i64 0]).length = 400 := by rw [Cell.zero, Cell.flen]; simp
theorem spots_le : ∀ (l : List Tr) (a : Int), (spotsF l a).length ≤ l.length
  | [], a => Nat.le_refl _
  | t :: ts, a => by
    unfold spotsF
    have h1 := spots_le ts (rowI t a)
    have h2 := spots_le ts a
    split
    · split
      · simp
      · simp only [List.length_cons]; omega
    · split
      · simp only [List.length_cons]; omega
      · simp only [List.length_cons]; omega
theorem mixF_rowdone (f g : Nat → Cell) {r k : Nat} (hr : r < 25) (hk : r * 40 + 40 ≤ k) : ((mixF f g 1000 k).drop (r * 40)).take 40 = (List.range 40).map fun c => f (r * 40 + c) := by
  apply List.ext_getElem
  · simp [mixF_len]; omega
  · intro i h1 h2
    simp only [List.length_map, List.length_range] at h2
    simp only [List.getElem_take, List.getElem_drop, List.getElem_map, List.getElem_range]
    rw [mixF_at, if_pos (by omega)]
def gM (p : Pg) (k : Nat) : List Cell := mixF (gridF p) (fun _ => Cell.none) 1000 (k * 40)
theorem gM_len (p : Pg) (k : Nat) : (gM p k).length = 1000 := mixF_len _ _ _ _
theorem gM_zero (p : Pg) : gM p 0 = List.replicate 1000 Cell.none := by rw [gM, Nat.zero_mul, mixF_none]
theorem gM_all (p : Pg) : gM p 25 = (List.range 1000).map (gridF p) := by rw [gM, show 25 * 40 = 1000 from rfl, mixF_full]
theorem gM_put (p : Pg) {k : Nat} (hk : k < 25) : putRow (gM p k) k (gridR p k) = gM p (k + 1) := mix_put (gridF p) (fun _ => Cell.none) hk (gridF_row p k)
theorem gM_row (p : Pg) {j k : Nat} (hj : j < 25) (hk : j < k) : ((gM p k).drop (j * 40)).take 40 = gridR p j := by rw [gM, mixF_rowdone _ _ hj (by omega), gridF_row]
theorem gridR_zero (p : Pg) : gridR p 0 = (rowR p 0).map fl0 := rfl
attribute [local irreducible] mixF putRow rowR gridR gridF rowL layF gM
theorem t_rows (tag : Nat) (p : Pg) (hp : p.Ok) {x : AV} (hx : ExOK x p.extra) (hl : p.extra.length < 1000000) : callω L T 18 tag [.agg (p.enc x)] [none] = some (.agg (flat Cell.enc ((List.range 1000).map (gridF p))), [none]) := by
  rw [call_ex (show T 18 = some (.code a18) from rfl) rfl rfl]
  have tr := t_Region (tag + 1) p hp hx
  have tsp := t_SpotsX (tag + 1) hx hl
  generalize hsp : spotsF p.extra (-1) = sp at *
  have zg := zgrid
  have hsl : sp.length < 1000000 := by rw [← hsp]; exact Nat.lt_of_le_of_lt (spots_le _ _) hl
  refine goal_join (Q := ?kQ) (fun key => ?kk) ?kb
  case kk =>
    rcases hx with rfl | ⟨rfl, he⟩
    · (have fA := @pgs; have c1 := tr; have c2 := tsp; refine gox ?_; clear fA c1 c2)
      refine Eq.trans (head_eq (env' := [(1, .ref 1 (tag, 1) 0), (2, .ref 2 (tag, 1 + 1) 0), (3, .ref 3 (tag, 1 + 1 + 1) 0), (4, .int .i64 (regF p)), (5, .fsl 3 sp.length (flat Sp.enc sp)), (6, .bool (upF p 0)), (15, .int .i64 ((0 : Nat) : Int))]) (heap' := [(1, ⟨(tag, 1), p.enc (.isl 3 p.extra.length (flat Tr.enc p.extra))⟩), (2, ⟨(tag, 1 + 1), flat Cell.enc (List.replicate 1000 Cell.none)⟩), (3, ⟨(tag, 1 + 1 + 1), flat Cell.enc (gM p 0)⟩)]) rfl (by rw [gM_zero, zg]) rfl) ?_
      have hx2 : ExOK (.isl 3 p.extra.length (flat Tr.enc p.extra)) p.extra := Or.inl rfl
      generalize AV.isl 3 p.extra.length (flat Tr.enc p.extra) = z at hx2 ⊢
      revert z
      exact key.out
    · (have fA := @pgs; have c1 := tr; have c2 := tsp; refine gox ?_; clear fA c1 c2)
      refine Eq.trans (head_eq (env' := [(1, .ref 1 (tag, 1) 0), (2, .ref 2 (tag, 1 + 1) 0), (3, .ref 3 (tag, 1 + 1 + 1) 0), (4, .int .i64 (regF p)), (5, .fsl 3 sp.length (flat Sp.enc sp)), (6, .bool (upF p 0)), (15, .int .i64 ((0 : Nat) : Int))]) (heap' := [(1, ⟨(tag, 1), p.enc .nsl⟩), (2, ⟨(tag, 1 + 1), flat Cell.enc (List.replicate 1000 Cell.none)⟩), (3, ⟨(tag, 1 + 1 + 1), flat Cell.enc (gM p 0)⟩)]) rfl (by rw [gM_zero, zg]) rfl) ?_
      exact key.out .nsl (Or.inr ⟨rfl, he⟩)
  intro z hz
  clear tr tsp hx
  have lz : (flat Cell.enc (List.replicate 1000 Cell.none)).length = 10000 := by rw [Cell.flen]; simp
  generalize flat Cell.enc (List.replicate 1000 Cell.none) = z0 at *
  refine headX_upN (fun k nx => ⟨[(1, .ref 1 (tag, 1) 0), (2, .ref 2 (tag, 1 + 1) 0), (3, .ref 3 (tag, 1 + 1 + 1) 0), (4, .int .i64 (regF p)), (5, .fsl 3 sp.length (flat Sp.enc sp)), (6, .bool (upF p k)), (15, .int .i64 k)], [(1, ⟨(tag, 1), p.enc z⟩), (2, ⟨(tag, 1 + 1), z0⟩), (3, ⟨(tag, 1 + 1 + 1), flat Cell.enc (gM p k)⟩)], nx, tag⟩) 25 _ ?_ ?_ 0 _ (by omega)
  · intro k nx hk
    have lm := gM_len p k
    have hmp := gM_put p hk
    have l1 := Cell.flen (gM p k)
    rw [lm] at l1
    cases hu : upF p k
    · have tln := t_Line (tag + 1) p hp hz k
      have tro := t_Row (tag + 1) (lineF p k) (regF p) (by rw [lineF_len hp]; omega)
      rw [lineF_len hp] at tro
      have tla := t_Lay (tag + 1) (rowL (lineF p k) (regF p) 40) (rowL_len _ _ _) k sp hsl
      have hrr : layF k (rowL (lineF p k) (regF p) 40) sp = rowR p k := by rw [rowR, hsp]
      rw [hrr] at tla
      have lcl := Cell.flen (rowL (lineF p k) (regF p) 40)
      rw [rowL_len] at lcl
      have tfl := t_rflat (tag + 1) (rowR p k) (rowR_len p k)
      have lr := Cell.flen (rowR p k)
      have lr2 := Cell.flen ((rowR p k).map fl0)
      rw [List.length_map] at lr2
      rw [rowR_len] at lr lr2
      have hs1 := cput2 (g := gM p k) (l := rowR p k) (r := k) (rowR_len p k) (by omega)
      have lp1 := Cell.flen (putRow (gM p k) k (rowR p k))
      rw [putRow_len (rowR_len p k) (by omega), lm] at lp1
      have hg1 := cget (g := putRow (gM p k) k (rowR p k)) (r := k)
      rw [putRow_get (rowR_len p k) (by omega)] at hg1
      have hs2 := cput2 (g := putRow (gM p k) k (rowR p k)) (l := (rowR p k).map fl0) (r := k) (by rw [List.length_map, rowR_len]) (by rw [putRow_len (rowR_len p k) (by omega)]; omega)
      rw [putRow_put (rowR_len p k) (by omega)] at hs2
      have hu2 : upF p (k + 1) = if k = 0 ∨ 23 < k then false else tallF (lineF p k) (regF p) 40 := by rw [upF, hu]; simp
      rw [hu2]
      refine ⟨nx + 1, ?_⟩
      by_cases hk0 : k = 0
      · have hgr : gridR p k = (rowR p k).map fl0 := by subst hk0; exact gridR_zero p
        rw [hgr] at hmp
        rw [hmp] at hs2
        rw [if_pos (Or.inl hk0)]
        clear hgr hmp
        generalize flat Cell.enc (gM p (k + 1)) = c9 at *
        generalize flat Cell.enc (putRow (gM p k) k (rowR p k)) = cP at *
        generalize flat Cell.enc (gM p k) = c0 at *
        generalize flat Cell.enc ((rowR p k).map fl0) = cF at *
        generalize flat Cell.enc (rowR p k) = cR at *
        generalize flat Cell.enc (rowL (lineF p k) (regF p) 40) = cL at *
        have sL : setR (repl 40 [AV.int IntKind.i64 0, AV.int IntKind.i64 0, AV.int IntKind.i64 0, AV.bool false, AV.bool false, AV.bool false, AV.bool false, AV.bool false, AV.int IntKind.i64 0, AV.int IntKind.i64 0]) 0 cL = cL := setR_all (by rw [zr40]; omega)
        have tL : List.take 400 cL = cL := List.take_of_length_le (by omega)
        (have fA := And.intro @pgs (And.intro @lcl (And.intro @sL (And.intro @tL (And.intro @l1 (And.intro @lr (And.intro @lr2 (And.intro @lp1 (And.intro @hs1 (And.intro @hg1 @hs2))))))))); have c1 := tln; have c2 := tro; have c3 := tla; have c4 := tfl; refine gox ?_; clear fA c1 c2 c3 c4)
        refine head_eq ?_ rfl rfl
        simp [wrap_succ hk (by omega)]
      · obtain ⟨j, rfl⟩ : ∃ j, k = j + 1 := ⟨k - 1, by omega⟩
        by_cases hk3 : 23 < j + 1
        · have hgr : gridR p (j + 1) = (rowR p (j + 1)).map fl0 := by rw [gridR, hu, if_neg (by decide), if_pos hk3]
          rw [hgr] at hmp
          rw [hmp] at hs2
          rw [if_pos (Or.inr hk3)]
          clear hgr hmp
          generalize flat Cell.enc (gM p (j + 1 + 1)) = c9 at *
          generalize flat Cell.enc (putRow (gM p (j + 1)) (j + 1) (rowR p (j + 1))) = cP at *
          generalize flat Cell.enc (gM p (j + 1)) = c0 at *
          generalize flat Cell.enc ((rowR p (j + 1)).map fl0) = cF at *
          generalize flat Cell.enc (rowR p (j + 1)) = cR at *
          generalize flat Cell.enc (rowL (lineF p ((j + 1 : Nat) : Int)) (regF p) 40) = cL at *
          have sL : setR (repl 40 [AV.int IntKind.i64 0, AV.int IntKind.i64 0, AV.int IntKind.i64 0, AV.bool false, AV.bool false, AV.bool false, AV.bool false, AV.bool false, AV.int IntKind.i64 0, AV.int IntKind.i64 0]) 0 cL = cL := setR_all (by rw [zr40]; omega)
          have tL : List.take 400 cL = cL := List.take_of_length_le (by omega)
          (have fA := And.intro @pgs (And.intro @lcl (And.intro @sL (And.intro @tL (And.intro @l1 (And.intro @lr (And.intro @lr2 (And.intro @lp1 (And.intro @hs1 (And.intro @hg1 @hs2))))))))); have c1 := tln; have c2 := tro; have c3 := tla; have c4 := tfl; refine gox ?_; clear fA c1 c2 c3 c4)
          refine head_eq ?_ rfl rfl
          simp
          exact w_i64 (by omega) (by omega)
        · have hgr : gridR p (j + 1) = rowR p (j + 1) := by rw [gridR, hu, if_neg (by decide), if_neg hk3]
          rw [hgr] at hmp
          rw [hmp] at hs1
          rw [if_neg (by omega)]
          clear hgr hmp hs2 hg1 lp1 tfl
          generalize flat Cell.enc (gM p (j + 1 + 1)) = c9 at *
          generalize flat Cell.enc (gM p (j + 1)) = c0 at *
          generalize flat Cell.enc ((rowR p (j + 1)).map fl0) = cF at *
          generalize flat Cell.enc (rowR p (j + 1)) = cR at *
          generalize flat Cell.enc (rowL (lineF p ((j + 1 : Nat) : Int)) (regF p) 40) = cL at *
          have sL : setR (repl 40 [AV.int IntKind.i64 0, AV.int IntKind.i64 0, AV.int IntKind.i64 0, AV.bool false, AV.bool false, AV.bool false, AV.bool false, AV.bool false, AV.int IntKind.i64 0, AV.int IntKind.i64 0]) 0 cL = cL := setR_all (by rw [zr40]; omega)
          have tL : List.take 400 cL = cL := List.take_of_length_le (by omega)
          (have fA := And.intro @pgs (And.intro @lcl (And.intro @sL (And.intro @tL (And.intro @l1 (And.intro @lr (And.intro @lr2 @hs1)))))); have c1 := tln; have c2 := tro; have c3 := tla; refine gox ?_; clear fA c1 c2 c3)
          refine head_eq ?_ rfl rfl
          simp
          exact w_i64 (by omega) (by omega)
    · obtain ⟨j, rfl⟩ : ∃ j, k = j + 1 := by
        cases k with
        | zero => cases hu
        | succ j => exact ⟨j, rfl⟩
      have hu2 : upF p (j + 1 + 1) = false := by rw [upF, hu]; simp
      rw [hu2]
      have hgr : gridR p (j + 1) = (gridR p j).map lowC := by rw [gridR, hu, if_pos rfl]
      rw [hgr] at hmp
      have tlo := t_lower (tag + 1) (gridR p j) (gridR_len p j)
      have hs1 := cput2 (g := gM p (j + 1)) (l := (gridR p j).map lowC) (r := j + 1) (by rw [List.length_map, gridR_len]) (by omega)
      rw [hmp] at hs1
      have hg1 := cget (g := gM p (j + 1)) (r := j)
      rw [gM_row p (by omega) (by omega)] at hg1
      have lr := Cell.flen (gridR p j)
      have lr2 := Cell.flen ((gridR p j).map lowC)
      rw [List.length_map] at lr2
      rw [gridR_len] at lr lr2
      have hw : IntKind.i64.wrap (((j + 1 : Nat) : Int) - 1) = (j : Int) := by rw [w_i64 (by omega) (by omega)]; omega
      clear hgr hmp
      generalize flat Cell.enc (gM p (j + 1 + 1)) = c9 at *
      generalize flat Cell.enc (gM p (j + 1)) = c0 at *
      generalize flat Cell.enc ((gridR p j).map lowC) = cF at *
      generalize flat Cell.enc (gridR p j) = cR at *
      refine ⟨nx, ?_⟩
      (have fA := And.intro @pgs (And.intro @l1 (And.intro @lr (And.intro @lr2 (And.intro @hs1 (And.intro @hg1 @hw))))); have c1 := tlo; refine gox ?_; clear fA c1)
      refine head_eq ?_ rfl rfl
      rw [show IntKind.i64.wrap (((j + 1 : Nat) : Int) + 1) = ((j + 1 + 1 : Nat) : Int) from by rw [w_i64 (by omega) (by omega)]; omega]
      rfl
  · intro nx
    rw [gM_all]
    have l2 : (flat Cell.enc ((List.range 1000).map (gridF p))).length = 10000 := by rw [Cell.flen]; simp
    have tl : (flat Cell.enc ((List.range 1000).map (gridF p))).take 10000 = flat Cell.enc ((List.range 1000).map (gridF p)) := List.take_of_length_le (by omega)
    have hpl := Cell.pl ((List.range 1000).map (gridF p))
    generalize flat Cell.enc ((List.range 1000).map (gridF p)) = c1 at *
    have sa : setR z0 0 c1 = c1 := setR_all (by omega)
    (have fA := And.intro @l2 (And.intro @tl (And.intro @sa @lz)); refine gox ?_; clear fA)
    (have fA := And.intro @l2 (And.intro @tl (And.intro @hpl (And.intro @sa @lz))); refine finx ?_; clear fA; try with_reducible rfl)

end Go.Proofs.Ytkienchmbfhigaa
