/- Part of the proof: an interpreter of the model, proved sound, and what it makes of the functions. -/
import Derived.Test.YtbaenaalfpcaaaaGreatDoorA5
import Derived.Test.YtbaenaalfpcaaaaGreatDoorA4
import Derived.Test.YtbaenaalfpcaaaaGreatDoorB6
import Derived.Test.YtbaenaalfpcaaaaGreatDoorB2
import Derived.Test.YtbaenaalfpcaaaaGreatDoorB5
import Derived.Test.YtbaenaalfpcaaaaGreatDoorB3
set_option linter.unusedVariables false
set_option linter.unusedSimpArgs false
set_option linter.unnecessarySimpa false
set_option maxRecDepth 100000
set_option maxHeartbeats 40000000
namespace Go.Proofs.YtbaenaalfpcaaaaGreatDoor
open Go Go.Sim
attribute [local irreducible] chk brX hX finH keyX visit packed backPk backOk backHeap stays getAll getX strX setX takeX normX fillX lendX partsX opsX callK lentK lentR giveX adoptX resX joinX headX loopX seqK blkK regK finX exOps ex eqT finMX matAll
attribute [local simp] zc2 zbg zbd zau zbm zb6 List.getElem?_cons_zero List.getElem?_cons_succ List.getElem?_nil w_i64 w_u64 w_u8 zcu bOr_u8 zcv zb3 zd0 zaj zar zao zaq zcy pl_int pl_str zcz pl_nsl zd1 zcx zag AV.cells TI.isAgg
section
attribute [local simp] Ev.flen Ev.rd Ev.enc Slot.flen Slot.rd Slot.pute Slot.zero Slot.enc Cell.flen Cell.rd Cell.put Cell.pute Cell.zero Cell.enc
def mtS (S : Scr) (p : List Int) : Mt := { mtNew 50 with scr := S, p2 := p }
theorem zku : ∀ (es : List Ev) (m : Mt), (∀ e ∈ es, e.kind ≠ 10) → es.foldl (rnd 2 true true) m = { m with scr := es.foldl sEvent m.scr }
 | [], _, _ => rfl
 | e :: es, m, hh => by
  rw [List.foldl_cons, List.foldl_cons]
  have h1 : rnd 2 true true m e = { m with scr := sEvent m.scr e } := by
   unfold rnd
   rw [if_pos (hh e (by simp))]
   rfl
  rw [h1, zku es _ (fun e he => hh e (by simp [he]))]
theorem zdw (S : Scr) (p : List Int) (c : Int) (p' : List Int) (es : List Ev) (hl : lxB p 0 (makeEvenI c) = (p', 0, es)) (hk : ∀ e ∈ es, e.kind ≠ 10) :
  comes2 (mtS S p) (makeEvenI c) = mtS (es.foldl sEvent S) p' := by
 unfold comes2
 have e2 : sendTo 2 [makeEvenI c] (mtS S p) 2 = mtS S p := by
  unfold sendTo
  rw [if_neg (show ¬ hears (mtS S p).ps.m 2 2 = true from (by decide : ¬ hears PS.start.m 2 2 = true))]
 have e3 : sendTo 2 [makeEvenI c] (mtS S p) 3 = mtS S p := by
  unfold sendTo
  rw [if_neg (show ¬ hears (mtS S p).ps.m 3 2 = true from (by decide : ¬ hears PS.start.m 3 2 = true))]
 have e0 : hears (mtS S p).ps.m 0 2 = true := show hears PS.start.m 0 2 = true by decide
 rw [e0]
 simp only [List.foldl_cons, List.foldl_nil, e2, e3]
 show read2 true true (mtS S p) (makeEvenI c) = _
 unfold read2
 rw [show lxB (mtS S p).p2 (mtS S p).h2 (makeEvenI c) = (p', 0, es) from hl]
 simp only
 rw [zku es _ hk]
 rfl
def evL (mk t : Int) : Ev := ⟨1, mk, 0, 0, 0, 2, t⟩
def marksM : List Int := [65, 66, 67, 72, 75]
theorem lx_12 : lxB [] 0 (makeEvenI 12) = ([], 0, [ev1 3 1]) := by decide +kernel
theorem lx_31 : lxB [] 0 (makeEvenI 31) = ([31], 0, []) := by decide +kernel
theorem lx_27 : lxB [] 0 (makeEvenI 27) = ([27], 0, []) := by decide +kernel
theorem lx_25 : lxB [] 0 (makeEvenI 25) = ([25], 0, []) := by decide +kernel
theorem lx_row : ∀ r < 25, lxB [31] 0 (makeEvenI (64 + ((r : Nat) : Int))) = ([31, 64 + ((r : Nat) : Int)], 0, []) := by decide +kernel
theorem lx_col : ∀ r < 25, ∀ c < 10, lxB [31, 64 + ((r : Nat) : Int)] 0 (makeEvenI (65 + ((c : Nat) : Int))) = ([], 0, [⟨5, r, c + 1, 0, 0, 0, 0⟩]) := by decide +kernel
theorem lx_fg : ∀ r < 8, lxB [27] 0 (makeEvenI (64 + ((r : Nat) : Int))) = ([], 0, [ev1 6 (64 + ((r : Nat) : Int))]) := by decide +kernel
theorem lx_mk : ∀ mk ∈ marksM, lxB [25] 0 (makeEvenI mk) = ([25, mk], 0, []) := by decide +kernel
theorem lx_let : ∀ mk ∈ marksM, ∀ t < 26, lxB [25, mk] 0 (makeEvenI (97 + ((t : Nat) : Int))) = ([], 0, [evL mk (97 + ((t : Nat) : Int))]) := by decide +kernel
theorem zoc : ∀ mk ∈ marksM, ∀ t < 26, glyphI (evL mk (97 + ((t : Nat) : Int))) = mJoinI mk (97 + ((t : Nat) : Int)) ∧ (mOf (mJoinI mk (97 + ((t : Nat) : Int)))).2.2 = false ∧ (mOfW (mJoinI mk (97 + ((t : Nat) : Int)))).2.2 = false := by decide +kernel
def scrP (row col fg : Nat) : Scr := sAttr (sGoto (sHome (sWipeR sNew 1 24)) row (col + 1)) (64 + fg)
def scrL (mk : Int) (S : Scr) (ts : List Int) : Scr := ts.foldl (fun S t => sEvent S (evL mk t)) S
def preL (row col fg : Nat) : List Int := [12, 31, 64 + row, 65 + col, 27, 64 + fg]
def letL (mk : Int) (ts : List Int) : List Int := ts.flatMap fun t => [25, mk, t]
def isLet (t : Int) : Prop := 97 ≤ t ∧ t < 123
theorem zp9 {t : Int} (h : isLet t) : ∃ n : Nat, n < 26 ∧ t = 97 + (n : Int) := ⟨(t - 97).toNat, by unfold isLet at h; omega, by unfold isLet at h; omega⟩
theorem fold_pre {row col fg : Nat} (hr : row < 25) (hc : col < 10) (hf : fg < 8) : ((preL row col fg).map makeEvenI).foldl comes2 (mtNew 50) = mtS (scrP row col fg) [] := by
 have e0 : mtNew 50 = mtS sNew [] := rfl
 unfold preL
 simp only [List.map_cons, List.map_nil, List.foldl_cons, List.foldl_nil]
 rw [e0, zdw _ _ _ _ _ lx_12 (by decide), zdw _ _ _ _ _ lx_31 (by simp), zdw _ _ _ _ _ (lx_row row hr) (by simp), zdw _ _ _ _ _ (lx_col row hr col hc) (by simp), zdw _ _ _ _ _ lx_27 (by simp), zdw _ _ _ _ _ (lx_fg fg hf) (by simp [ev1])]
 rfl
theorem fold_let {mk : Int} (hm : mk ∈ marksM) : ∀ (ts : List Int) (S : Scr), (∀ t ∈ ts, isLet t) → ((letL mk ts).map makeEvenI).foldl comes2 (mtS S []) = mtS (scrL mk S ts) []
 | [], _, _ => rfl
 | t :: ts, S, hh => by
  obtain ⟨n, hn, rfl⟩ := zp9 (hh t (by simp))
  have e : letL mk ((97 + (n : Int)) :: ts) = 25 :: mk :: (97 + (n : Int)) :: letL mk ts := rfl
  rw [e]
  simp only [List.map_cons, List.foldl_cons]
  rw [zdw _ _ _ _ _ lx_25 (by simp), zdw _ _ _ _ _ (lx_mk mk hm) (by simp), zdw _ _ _ _ _ (lx_let mk hm n hn) (by simp [evL]), fold_let hm ts _ (fun t ht => hh t (by simp [ht]))]
  rfl
theorem fold_all {row col fg : Nat} (hr : row < 25) (hc : col < 10) (hf : fg < 8) {mk : Int} (hm : mk ∈ marksM) {ts : List Int} (ht : ∀ t ∈ ts, isLet t) :
  ((preL row col fg ++ letL mk ts).map makeEvenI).foldl comes2 (mtNew 50) = mtS (scrL mk (scrP row col fg) ts) [] := by
 rw [List.map_append, List.foldl_append, fold_pre hr hc hf, fold_let hm ts _ ht]
def lslot (fg g : Int) : Slot := ⟨g, fg, false, false, 0, 0, false, 0, false, false⟩
structure LInv (S : Scr) (r0 c0 : Nat) (f0 : Int) (gs : List Int) : Prop where
 row : S.row = r0
 col : S.col = ((c0 + gs.length : Nat) : Int)
 fg : S.fg = f0
 bg : S.bg = 0
 flash : S.flash = false
 inv : S.inv = false
 under : S.under = false
 conc : S.conc = false
 tall : S.tall = false
 wide : S.wide = false
 waits : S.waits = false
 len : S.sl.length = 1000
 at' : ∀ i : Nat, i < 40 → S.sl[r0 * 40 + i]? = some (if c0 ≤ i ∧ i < c0 + gs.length then lslot f0 (gs.getD (i - c0) 0) else blk)
theorem inv_pre {row col fg : Nat} (hr0 : 0 < row) (hr : row < 25) (hc : col < 10) (hf : fg < 8) : LInv (scrP row col fg) row col fg [] := by
 have hg : sGoto (sHome (sWipeR sNew 1 24)) row (col + 1) = sReset { sHome (sWipeR sNew 1 24) with row := row, col := (col : Int) + 1 - 1 } := by
  unfold sGoto
  rw [if_neg (by omega), if_neg (by omega)]
 have ha : ∀ S : Scr, sAttr S (64 + (fg : Int)) = { S with fg := fg } := fun S => by
  unfold sAttr
  rw [if_pos (by omega)]
  rw [show (64 : Int) + fg - 64 = fg by omega]
 have hS : scrP row col fg = { sReset { sHome (sWipeR sNew 1 24) with row := row, col := (col : Int) + 1 - 1 } with fg := fg } := by
  unfold scrP
  rw [ha, hg]
 rw [hS]
 refine ⟨rfl, ?_, rfl, rfl, rfl, rfl, rfl, rfl, rfl, rfl, rfl, ?_, fun i hi => ?_⟩
 ·simp only [sReset, List.length_nil]; omega
 ·show (ovr (blks 1000) 40 (blks 960)).length = 1000
  rw [zbe (by rw [zak, zak]; omega), zak]
 ·show (ovr (blks 1000) 40 (blks 960))[row * 40 + i]? = _
  rw [zls (by rw [zak, zak]; omega), zl9, zl9, zak, if_neg (show ¬ (col ≤ i ∧ i < col + ([] : List Int).length) by simp only [List.length_nil]; omega), if_neg (by omega), if_pos (by omega), if_pos (by omega)]
theorem inv_step {S : Scr} {row col : Nat} {fg : Int} {gs : List Int} (I : LInv S row col fg gs) (hr : row < 25) (hcl : col + gs.length < 39) {mk t : Int} (hm : mk ∈ marksM) (ht : isLet t) :
  LInv (sEvent S (evL mk t)) row col fg (gs ++ [mJoinI mk t]) := by
 obtain ⟨n, hn, rfl⟩ := zp9 ht
 obtain ⟨g1, g2, _⟩ := zoc mk hm n hn
 obtain ⟨i1, i2, i3, i4, i5, i6, i7, i8, i9, i10, i11, i12, i13⟩ := I
 obtain ⟨r, c, f, bg, flash, inv, under, conc, tall, wide, cursor, roll, masks, bells, sl, waits, row0, col0, wr⟩ := S
 simp only at i1 i2 i3 i4 i5 i6 i7 i8 i9 i10 i11 i12 i13
 subst i1 i2 i3 i4 i5 i6 i7 i8 i9 i10 i11
 have hx : ∀ w : Ev, slotX ⟨(row : Nat), ((col + gs.length : Nat) : Int), f, 0, false, false, false, false, false, false, cursor, roll, masks, bells, sl, false, row0, col0, w⟩ (evL mk (97 + (n : Int))) = lslot f (mJoinI mk (97 + (n : Int))) := fun w => by
  unfold slotX slotC
  rw [if_neg (by simp), g1, g2]
  rfl
 have hw : ∀ w : Ev, slotS ⟨(row : Nat), ((col + gs.length : Nat) : Int), f, 0, false, false, false, false, false, false, cursor, roll, masks, bells, sl, false, row0, col0, w⟩ (evL mk (97 + (n : Int))) = ⟨(row : Nat), ((col + gs.length : Nat) : Int), f, 0, false, false, false, false, false, false, cursor, roll, masks, bells, sl, false, row0, col0, w⟩ := fun w => by
  unfold slotS slotW slotC
  rw [if_neg (by simp)]
 have he : sEvent ⟨(row : Nat), ((col + gs.length : Nat) : Int), f, 0, false, false, false, false, false, false, cursor, roll, masks, bells, sl, false, row0, col0, wr⟩ (evL mk (97 + (n : Int))) =
   ⟨(row : Nat), ((col + gs.length : Nat) : Int) + 1, f, 0, false, false, false, false, false, false, cursor, roll, masks, bells, sl.set (row * 40 + (col + gs.length)) (lslot f (mJoinI mk (97 + (n : Int)))), false, row0, col0, evL mk (97 + (n : Int))⟩ := by
  unfold sEvent
  rw [if_pos (show (evL mk (97 + (n : Int))).kind = 1 from rfl)]
  unfold sWrite
  simp only [hx, hw, Bool.and_false, Bool.false_and]
  have hmo : (mOf (lslot f (mJoinI mk (97 + (n : Int)))).glyph).2.2 = false := g2
  unfold sEnd many sLay laySl layAt
  simp only [Bool.false_eq_true, if_false, Int.toNat_natCast]
  rw [if_pos (by omega)]
  rfl
 rw [he]
 refine ⟨rfl, ?_, rfl, rfl, rfl, rfl, rfl, rfl, rfl, rfl, rfl, ?_, fun i hi => ?_⟩
 ·simp only [List.length_append, List.length_singleton]; omega
 ·simp only [List.length_set, i12]
 ·simp only [List.length_append, List.length_singleton]
  rw [List.getElem?_set]
  by_cases hik : i = col + gs.length
  ·subst hik
   rw [if_pos rfl, if_pos (by rw [i12]; omega), if_pos (by omega)]
   rw [show col + gs.length - col = gs.length by omega]
   simp [List.getD_eq_getElem?_getD]
  ·rw [if_neg (by omega), i13 i hi]
   by_cases hin : col ≤ i ∧ i < col + gs.length
   ·rw [if_pos hin, if_pos (by omega)]
    simp only [List.getD_eq_getElem?_getD]
    rw [List.getElem?_append_left (by omega)]
   ·rw [if_neg hin, if_neg (by omega)]
theorem inv_all {row col : Nat} {fg : Int} (hr : row < 25) {mk : Int} (hm : mk ∈ marksM) : ∀ (ts : List Int) (S : Scr) (gs : List Int), LInv S row col fg gs → col + gs.length + ts.length ≤ 39 → (∀ t ∈ ts, isLet t) →
  LInv (scrL mk S ts) row col fg (gs ++ ts.map (mJoinI mk))
 | [], S, gs, I, _, _ => by
  rw [List.map_nil, List.append_nil]
  exact I
 | t :: ts, S, gs, I, hl, ht => by
  have h1 := inv_step I hr (by simp only [List.length_cons] at hl; omega) hm (ht t (by simp))
  have h2 := inv_all hr hm ts _ _ h1 (by simp only [List.length_cons, List.length_append, List.length_nil] at hl ⊢; omega) (fun t h => ht t (by simp [h]))
  rw [List.append_assoc] at h2
  exact h2
theorem zst_none {l : List Slot} (hz : ∀ k, zoneB (l.getD k Slot.none) = false) : ∀ n, zst l n = ⟨0, false, false⟩
 | 0 => rfl
 | n + 1 => by
  unfold zst
  rw [zst_none hz n]
  have h1 := hz n
  generalize l.getD n Slot.none = s at h1 ⊢
  unfold zoneB at h1
  rw [Bool.or_eq_false_iff] at h1
  unfold zstep zoneB
  rw [h1.1, h1.2]
  rfl
theorem zrow_none {l : List Slot} (hz : ∀ k, zoneB (l.getD k Slot.none) = false) (masks : Bool) {k : Nat} (hk : k < 40) : ∃ c : Cell, (zrow l masks)[k]? = some c ∧ c.glyph = (l.getD k Slot.none).glyph ∧ c.fg = (l.getD k Slot.none).fg := by
 refine ⟨zat l masks k, by unfold zrow; rw [List.getElem?_map, List.getElem?_range hk]; rfl, ?_, ?_⟩
 ·unfold zat zcell
  rw [zst_none hz]
  have h1 := hz k
  unfold zoneB at h1
  rw [Bool.or_eq_false_iff] at h1
  simp only [Bool.and_false, Bool.false_eq_true, if_false, h1.2]
 ·rfl
theorem zmu {f : Nat → List Cell} (hf : ∀ k, (f k).length = 40) {r c : Nat} (hc : c < 40) : ∀ n, r < n → (gridP f n)[r * 40 + c]? = (f r)[c]?
 | 0, h => absurd h (Nat.not_lt_zero _)
 | n + 1, h => by
  rw [zh6]
  by_cases hn : r < n
  ·rw [List.getElem?_append_left (by rw [zcf hf]; omega), zmu hf hc n hn]
  ·obtain rfl : r = n := by omega
   rw [List.getElem?_append_right (by rw [zcf hf]; omega), zcf hf]
   congr 1
   omega
theorem let_cell {S : Scr} {row col : Nat} {fg : Int} {gs : List Int} (I : LInv S row col fg gs) (hr : row < 25) (hcl : col + gs.length ≤ 39) (hg : ∀ g ∈ gs, (mOfW g).2.2 = false) {i : Nat} (hi : i < gs.length) :
  ∃ c : Cell, (gridL S)[row * 40 + (col + i)]? = some c ∧ c.glyph = gs.getD i 0 ∧ c.fg = fg := by
 have hgd : ∀ k, ((S.sl.drop (row * 40)).take 40).getD k Slot.none = if k < 40 then (if col ≤ k ∧ k < col + gs.length then lslot fg (gs.getD (k - col) 0) else blk) else Slot.none := fun k => by
  rw [List.getD_eq_getElem?_getD, List.getElem?_take]
  by_cases hk : k < 40
  ·rw [if_pos hk, if_pos hk, List.getElem?_drop, I.at' k hk]
   rfl
  ·rw [if_neg hk, if_neg hk]
   rfl
 have hz : ∀ k, zoneB (((S.sl.drop (row * 40)).take 40).getD k Slot.none) = false := fun k => by
  rw [hgd]
  split
  ·split
   ·rename_i h1 h2
    unfold zoneB
    have hmem : gs.getD (k - col) 0 ∈ gs := by
     rw [List.getD_eq_getElem?_getD, List.getElem?_eq_getElem (by omega)]
     exact List.getElem_mem _
    rw [show (lslot fg (gs.getD (k - col) 0)).glyph = gs.getD (k - col) 0 from rfl, hg _ hmem]
    rfl
   ·decide
  ·decide
 obtain ⟨c, h1, h2, h3⟩ := zrow_none hz S.masks (k := col + i) (by omega)
 refine ⟨c, ?_, ?_, ?_⟩
 ·unfold gridL
  rw [zmu (f := rowc S) (fun k => zf0 ..) (c := col + i) (by omega) 25 hr]
  exact h1
 ·rw [h2, hgd, if_pos (by omega), if_pos (by omega), show col + i - col = i by omega]
  rfl
 ·rw [h3, hgd, if_pos (by omega), if_pos (by omega)]
  rfl
end
section
structure Pq where
 c : Int
 glyph : Int
 deriving DecidableEq
def Pq.enc (s : Pq) : List AV := [.int .i64 s.c, .int .i64 s.glyph]
theorem Pq.len (s : Pq) : s.enc.length = 2 := rfl
theorem Pq.flen (xs : List Pq) : (flat Pq.enc xs).length = xs.length * 2 := zhk Pq.len xs
theorem Pq.g0 {xs : List Pq} {i : Nat} (h : i < xs.length) : (flat Pq.enc xs)[i * 2]? = some (.int .i64 xs[i].c) := by simpa [Pq.enc] using flt_get (k := 0) Pq.len h (by omega)
theorem Pq.g1 {xs : List Pq} {i : Nat} (h : i < xs.length) : (flat Pq.enc xs)[i * 2 + 1]? = some (.int .i64 xs[i].glyph) := flt_get Pq.len h (by omega)
attribute [local simp] Pr.flen Pr.rd Pr.enc Pq.flen Pq.g0 Pq.g1 Pq.enc
def pqs (l : List Pr) : List Pq := l.map fun p => ⟨p.c, p.glyph⟩
def ltAV (l : List Pr) : AV := .fsl 1 (l.length * 2) (flat Pq.enc (pqs l))
theorem zen (tag : Nat) (c : Int) (h0 : 0 ≤ c) (h1 : c < 256) : callω L T 65 tag [.int .u8 c] [none] = some (.int .i64 (plainI c), [none]) := by
 rw [za5 (show T 65 = some (.code a65) from rfl) rfl rfl]
 have e := and127 h0 h1
 have w : IntKind.i64.wrap (bAnd .u8 c 127) = c % 128 := by rw [e]; exact w_i64 (by omega) (by omega)
 by_cases h2 : c % 128 < 32
 ·(refine gox ?_)
  (refine finx ?_; try with_reducible rfl)
  unfold plainI; rw [if_pos h2]; rfl
 ·by_cases h3 : c % 128 = 127
  ·(refine gox ?_)
   (refine finx ?_; try with_reducible rfl)
   unfold plainI; rw [if_neg h2, if_pos h3]; rfl
  ·(refine gox ?_)
   (refine finx ?_; try with_reducible rfl)
   unfold plainI; rw [if_neg h2, if_neg h3, w]
theorem zfp (tag : Nat) (m : Int) : callω L T 126 tag [.int .i64 m] [none] = some (ltAV (pairsL m), [none]) := by
 rw [za5 (show T 126 = some (.code a126) from rfl) rfl rfl]
 unfold pairsL moreL
 (refine gox ?_)
 iterate 12 ((first | refine zby (by apply Eq.refl) (by apply Eq.refl) (by intro κ'; apply Eq.refl) (by intro κ'; apply Eq.refl) (fun h => ?_) (fun h => ?_) | refine zc0 (fun h => ?_) (fun h => ?_) | refine zcg (fun h => ?_) (fun h => ?_)); (rw [if_pos h]; (refine gox ?_); (refine finx ?_; try with_reducible rfl); rfl); rw [if_neg h]; clear h; (refine gox ?_))
 (refine gox ?_)
 (refine finx ?_; try with_reducible rfl)
 rfl
def dbl (k : Nat) : Nat := 2 * k
theorem zje (tag : Nat) (m c : Int) (h0 : 0 ≤ c) (h1 : c < 256) : callω L T 81 tag [.int .i64 m, .int .u8 c] [none, none] = some (.int .i64 (joinI m c), [none, none]) := by
 rw [za5 (show T 81 = some (.code a81) from rfl) rfl rfl]
 have e := and127 h0 h1
 have w : IntKind.i64.wrap (bAnd .u8 c 127) = c % 128 := by rw [e]; exact w_i64 (by omega) (by omega)
 by_cases hm : m < 0
 ·have ej : joinI m c = 0 := if_pos (Or.inl hm)
  (refine gox ?_)
  (refine finx ?_; try with_reducible rfl)
  rw [ej]; rfl
 by_cases hm2 : 16 ≤ m
 ·have ej : joinI m c = 0 := if_pos (Or.inr hm2)
  (refine gox ?_)
  (refine finx ?_; try with_reducible rfl)
  rw [ej]; rfl
 by_cases hz : m = 0 ∧ c % 128 = 42
 ·have ej : joinI m c = 64 := by
   unfold joinI
   rw [if_neg (by omega), hz.1]
   show (match find1 [] (c % 128) with | some g => g | none => if c % 128 = 42 ∧ (0 : Int) = 0 then 64 else plainI c) = _
   simp [find1, hz.2]
  (refine gox ?_)
  (refine finx ?_; try with_reducible rfl)
  rw [ej]; rfl
 have hm3 : ¬ (m < 0 ∨ 16 ≤ m) := by omega
 have ej : joinI m c = (match find1 (pairsL m) (c % 128) with | some g => g | none => plainI c) := by
  unfold joinI
  rw [if_neg hm3]
  cases hf : find1 (pairsL m) (c % 128) with
  | some g => rfl
  | none =>
   have : ¬ (c % 128 = 42 ∧ m = 0) := by omega
   simp [this]
 have hz2 : (pairsL m).length < 1000000 := by
  have : ∀ a : Nat, a < 16 → (pairsL a).length < 1000000 := by decide
  have := this m.toNat (by omega)
  rwa [show ((m.toNat : Nat) : Int) = m from by omega] at this
 rw [ej]
 have cont : ∀ l : List Pr, l.length < 1000000 → (pqs l).length = l.length := fun l _ => by simp [pqs]
 refine goal_join (Q := ?kQ) (fun key => ?kk) ?kb
 case kk =>
  by_cases h0' : m = 0
  ·have h42 : ¬ c % 128 = 42 := by omega
   (have c1 := fun x1 => zfp x1 m; refine gox ?_; clear c1)
   exact key.out
  ·(have c1 := fun x1 => zfp x1 m; refine gox ?_; clear c1)
   exact key.out
 case kb =>
  generalize pairsL m = l at hz2
  have hpl : (pqs l).length = l.length := by simp [pqs]
  have hfl : (flat Pq.enc (pqs l)).length = l.length * 2 := by rw [Pq.flen, hpl]
  refine ze0 (fun k nx => ⟨[(1, .int .u8 c), (5, ltAV l), (6, .int .i64 (dbl k))], [], nx, tag⟩) l (fun l => some (.int .i64 (match find1 l (c % 128) with | some g => g | none => plainI c), [none, none])) ?_ ?_ 1
  ·intro k nx hk ih
   have hk2 : k < (pqs l).length := by omega
   have hd : dbl k = k * 2 := Nat.mul_comm 2 k
   have hd2 : dbl (k + 1) = dbl k + 2 := by unfold dbl; omega
   have q0 : dbl k < (flat Pq.enc (pqs l)).length := by omega
   have q1 : dbl k + 1 < (flat Pq.enc (pqs l)).length := by omega
   have g0 : (flat Pq.enc (pqs l))[dbl k]? = some (.int .i64 l[k].c) := by rw [hd, Pq.g0 hk2]; simp [pqs]
   have g1 : (flat Pq.enc (pqs l))[dbl k + 1]? = some (.int .i64 l[k].glyph) := by rw [hd, Pq.g1 hk2]; simp [pqs]
   have w1 : IntKind.i64.wrap ((dbl k : Int) + 1) = (dbl k : Int) + 1 := by rw [w_i64 (by omega) (by omega)]
   have w2 : IntKind.i64.wrap ((dbl k : Int) + 2) = (dbl k : Int) + 2 := by rw [w_i64 (by omega) (by omega)]
   by_cases hf : l[k].c = c % 128
   ·have ef : find1 (l[k] :: l.drop (k + 1)) (c % 128) = some l[k].glyph := if_pos hf
    rw [ef]
    (have fA := aI @g0 (aI @g1 @w1); refine gox ?_; clear fA)
    (refine finx ?_; try with_reducible rfl)
   ·have ef : find1 (l[k] :: l.drop (k + 1)) (c % 128) = find1 (l.drop (k + 1)) (c % 128) := if_neg hf
    rw [ef]
    refine Eq.trans ?_ (ih nx)
    (have fA := aI @g0 (aI @g1 @w1); refine gox ?_; clear fA)
    refine zaa ?_ rfl rfl
    simp [w2, hd2]
  ·intro nx
   have hd : dbl l.length = l.length * 2 := Nat.mul_comm 2 _
   have w1 : IntKind.i64.wrap ((dbl l.length : Int) + 1) = (dbl l.length : Int) + 1 := by rw [w_i64 (by omega) (by omega)]
   (have fA := @w1; have c1 := fun x1 => zen x1 c h0 h1; refine gox ?_; clear fA c1)
   (refine finx ?_; try with_reducible rfl)
   rfl
end
section
attribute [local simp] Pr.flen Pr.rd Pr.enc
theorem zlo (tag : Nat) (c : Int) (h0 : 0 ≤ c) (h1 : c < 256) : callω L T 127 tag [.int .u8 c] [none] = some (.int .i64 (mPlainI c), [none]) := by
 rw [za5 (show T 127 = some (.code a127) from rfl) rfl rfl]
 unfold mPlainI
 have w : IntKind.i64.wrap c = c := w_i64 (by omega) (by omega)
 (refine gox ?_)
 iterate 6 ((first | refine zby (by apply Eq.refl) (by apply Eq.refl) (by intro κ'; apply Eq.refl) (by intro κ'; apply Eq.refl) (fun h => ?_) (fun h => ?_) | refine zc0 (fun h => ?_) (fun h => ?_) | refine zcg (fun h => ?_) (fun h => ?_)); (rw [if_pos h]; (refine gox ?_); (refine finx ?_; try with_reducible rfl); rfl); rw [if_neg h]; clear h; (refine gox ?_))
 (refine finx ?_; try with_reducible rfl)
 rw [w]
theorem zjp (tag : Nat) (c : Int) (h0 : 0 ≤ c) (h1 : c < 256) : callω L T 130 tag [.int .u8 c] [none] = some (.tup [.int .i64 (specI c).1, .bool (specI c).2], [none]) := by
 rw [za5 (show T 130 = some (.code a130) from rfl) rfl rfl]
 have e := and127 h0 h1
 (refine gox ?_)
 refine ze0 (fun k nx => ⟨[(0, .int .u8 c), (4, .msl 7 (tag, 1) 1 0 17), (5, .msl 8 (tag, 1 + 1) 1 0 17), (6, .int .i64 k)], [(7, ⟨(tag, 1), specCs.map (.int .u8)⟩), (8, ⟨(tag, 1 + 1), specGs.map (.int .i64)⟩)], nx, tag⟩) specL (fun l => some (.tup [.int .i64 (match find1 l (c % 128) with | some g => (g, true) | none => (0, false)).1, .bool (match find1 l (c % 128) with | some g => (g, true) | none => (0, false)).2], [none])) ?_ ?_ _
 ·intro k nx hk ih
  have n1 : specCs.length = 17 := rfl
  have n2 : specGs.length = 17 := rfl
  have q1 : k < specCs.length := hk
  have q2 : k < specGs.length := hk
  have g1 : specCs[k]'q1 = (specL[k]'hk).c := by
   have : specCs[k]? = some (specL[k]'hk).c := by simp [specCs, hk]
   rw [List.getElem?_eq_getElem q1] at this
   exact Option.some.inj this
  have g2 : specGs[k]'q2 = (specL[k]'hk).glyph := by
   have : specGs[k]? = some (specL[k]'hk).glyph := by simp [specGs, hk]
   rw [List.getElem?_eq_getElem q2] at this
   exact Option.some.inj this
  have hk17 : k < 17 := hk
  by_cases hf : (specL[k]'hk).c = c % 128
  ·have ef : find1 ((specL[k]'hk) :: specL.drop (k + 1)) (c % 128) = some (specL[k]'hk).glyph := if_pos hf
   rw [ef]
   (have fA := aI @n1 (aI @n2 (aI @g1 @g2)); refine gox ?_; clear fA)
   (refine finx ?_; try with_reducible rfl)
   rw [g2]; rfl
  ·have ef : find1 ((specL[k]'hk) :: specL.drop (k + 1)) (c % 128) = find1 (specL.drop (k + 1)) (c % 128) := if_neg hf
   rw [ef]
   refine Eq.trans ?_ (ih nx)
   (have fA := aI @n1 (aI @n2 (aI @g1 @g2)); refine gox ?_; clear fA)
   refine zaa ?_ rfl rfl
   simp [zah (show k < 17 from hk) (by omega)]
 ·intro nx
  have n1 : specL.length = 17 := rfl
  (have fA := @n1; refine gox ?_; clear fA)
  (refine finx ?_; try with_reducible rfl)
  try rfl
theorem zlf (tag : Nat) (p : Int) (s : Bool) : callω L T 128 tag [.int .i64 p, .bool s] [none, none] = some (.int .i64 (mGlyphI p s), [none, none]) := by
 rw [za5 (show T 128 = some (.code a128) from rfl) rfl rfl]
 have e : IntKind.i64.wrap (1048576 + bAnd .i64 p 63) = 1048576 + p % 64 := by rw [and_63]; exact w_i64 (by omega) (by omega)
 have e2 : IntKind.i64.wrap (1048576 + p % 64 + 64) = 1048576 + p % 64 + 64 := w_i64 (by omega) (by omega)
 (refine gox ?_)
 (first | refine zby (by apply Eq.refl) (by apply Eq.refl) (by intro κ'; apply Eq.refl) (by intro κ'; apply Eq.refl) (fun h => ?_) (fun h => ?_) | refine zc0 (fun h => ?_) (fun h => ?_) | refine zcg (fun h => ?_) (fun h => ?_))
 ·subst_vars
  (refine gox ?_)
  (refine finx ?_; try with_reducible rfl)
  rw [e, e2]; rfl
 ·subst_vars
  (refine gox ?_)
  (refine finx ?_; try with_reducible rfl)
  rw [e]; unfold mGlyphI; simp
theorem zlv (tag : Nat) (c : Int) (h0 : 0 ≤ c) (h1 : c < 256) : callω L T 129 tag [.int .u8 c] [none] = some (.int .i64 (frenchI c), [none]) := by
 rw [za5 (show T 129 = some (.code a129) from rfl) rfl rfl]
 have hr : ∀ c : Nat, c < 256 → (¬ bAnd .u8 c 127 < 32 → bOr .i64 (IntKind.i64.wrap (bAnd .u8 c 31)) (bShl .i64 (IntKind.i64.wrap (bAnd .u8 (bShr .u8 c 6) 1)) 5) = frenchI c) ∧ (bAnd .u8 c 127 < 32 → 0 = frenchI c) := by decide +kernel
 have hr := hr c.toNat (by omega)
 rw [show ((c.toNat : Nat) : Int) = c from by omega] at hr
 (refine gox ?_)
 (first | refine zby (by apply Eq.refl) (by apply Eq.refl) (by intro κ'; apply Eq.refl) (by intro κ'; apply Eq.refl) (fun h => ?_) (fun h => ?_) | refine zc0 (fun h => ?_) (fun h => ?_) | refine zcg (fun h => ?_) (fun h => ?_))
 ·(refine gox ?_)
  (refine finx ?_; try with_reducible rfl)
  rw [← hr.2 h]; rfl
 ·(refine gox ?_)
  (refine finx ?_; try with_reducible rfl)
  rw [← hr.1 h]
theorem zdm (tag : Nat) (c : Int) (h0 : 0 ≤ c) (h1 : c < 256) : callω L T 80 tag [.int .u8 c] [none] = some (.tup [.int .i64 (accI c).1, .bool (accI c).2], [none]) := by
 rw [za5 (show T 80 = some (.code a80) from rfl) rfl rfl]
 have e := and127 h0 h1
 have r : ∀ x, c % 128 = x → accI c = (if x = 65 ∨ x = 66 ∨ x = 67 ∨ x = 72 ∨ x = 75 then (x - 64, true) else (0, false)) := by intro x hx; unfold accI; rw [hx]
 by_cases hin : c % 128 = 65 ∨ c % 128 = 66 ∨ c % 128 = 67 ∨ c % 128 = 72 ∨ c % 128 = 75
 ·rcases hin with hin | hin | hin | hin | hin
  all_goals (refine gox ?_)
  all_goals (refine finx ?_; try with_reducible rfl)
  ·rw [r 65 hin]; rfl
  ·rw [r 66 hin]; rfl
  ·rw [r 67 hin]; rfl
  ·rw [r 72 hin]; rfl
  ·rw [r 75 hin]; rfl
 ·have q : accI c = (0, false) := by rw [r _ rfl, if_neg hin]
  (refine gox ?_)
  (refine finx ?_; try with_reducible rfl)
  rw [q]; rfl
end
section
attribute [local simp] Pr.flen Pr.rd Pr.enc Pq.flen Pq.g0 Pq.g1 Pq.enc
theorem zel (tag : Nat) (set c : Int) (parted : Bool) (h0 : 0 ≤ c) (h1 : c < 256) : callω L T 82 tag [.int .i64 set, .int .u8 c, .bool parted] [none, none, none] = some (.int .i64 (mCharI set c parted), [none, none, none]) := by
 rw [za5 (show T 82 = some (.code a82) from rfl) rfl rfl]
 have e := and127 h0 h1
 have k0 : 0 ≤ bAnd .u8 c 127 := by omega
 have k1 : bAnd .u8 c 127 < 256 := by omega
 unfold mCharI
 rw [← e]
 by_cases hl : bAnd .u8 c 127 < 32
 ·rw [if_pos hl]
  (refine gox ?_)
  (refine finx ?_; try with_reducible rfl)
  rfl
 rw [if_neg hl]
 by_cases s0 : set = 0
 ·rw [if_pos s0]
  (have c1 := fun x1 => zlo x1 (bAnd .u8 c 127) k0 k1; refine gox ?_; clear c1)
  (refine finx ?_; try with_reducible rfl)
 rw [if_neg s0]
 by_cases s1 : set = 1
 ·rw [if_pos s1]
  (have c1 := fun x1 => zlv x1 (bAnd .u8 c 127) k0 k1; have c2 := fun x1 => zlf x1 (frenchI (bAnd .u8 c 127)) parted; refine gox ?_; clear c1 c2)
  (refine finx ?_; try with_reducible rfl)
 rw [if_neg s1]
 by_cases s2 : set = 2
 ·rw [if_pos s2]
  cases hs : (specI (bAnd .u8 c 127)).2
  all_goals (have c1 := fun x1 => zjp x1 (bAnd .u8 c 127) k0 k1; refine gox ?_; clear c1)
  all_goals (refine finx ?_; try with_reducible rfl)
  all_goals rfl
 rw [if_neg s2]
 (refine gox ?_)
 (refine finx ?_; try with_reducible rfl)
 rfl
theorem zo7 (tag : Nat) (m c : Int) (g0 : 0 ≤ m) (g1 : m < 256) (h0 : 0 ≤ c) (h1 : c < 256) : callω L T 33 tag [.int .u8 m, .int .u8 c] [none, none] = some (.int .i64 (mJoinI m c), [none, none]) := by
 rw [za5 (show T 33 = some (.code a33) from rfl) rfl rfl]
 unfold mJoinI
 cases ha : (accI m).2
 ·rw [if_neg (by simp)]
  (have c1 := fun x1 => zdm x1 m g0 g1; have c2 := fun x1 => zel x1 0 c false h0 h1; refine gox ?_; clear c1 c2)
  (refine finx ?_; try with_reducible rfl)
 ·by_cases hj : joinI (accI m).1 c = plainI c
  ·rw [if_neg (by simp [hj])]
   (have c1 := fun x1 => zdm x1 m g0 g1; have c2 := fun x1 => zel x1 0 c false h0 h1; have c3 := fun x1 => zje x1 (accI m).1 c h0 h1; have c4 := fun x1 => zen x1 c h0 h1; refine gox ?_; clear c1 c2 c3 c4)
   (refine finx ?_; try with_reducible rfl)
  ·rw [if_pos ⟨rfl, hj⟩]
   (have c1 := fun x1 => zdm x1 m g0 g1; have c2 := fun x1 => zel x1 0 c false h0 h1; have c3 := fun x1 => zje x1 (accI m).1 c h0 h1; have c4 := fun x1 => zen x1 c h0 h1; refine gox ?_; clear c1 c2 c3 c4)
   (refine finx ?_; try with_reducible rfl)
end
section
attribute [local simp] Ev.flen Ev.rd Ev.enc Slot.flen Slot.rd Slot.pute Slot.zero Slot.enc Cell.flen Cell.rd Cell.put Cell.pute Cell.zero Cell.enc
theorem mtNew_okL {most : Int} (h0 : 0 ≤ most) (h1 : most ≤ 4096) : (mtNew most).Ok 0 := ⟨zbo, ⟨by simp [mtNew], by simp [mtNew], by simp [mtNew]⟩, .inl rfl, h0, h1, by simp [mtNew], by simp [mtNew], by simp [mtNew], by simp [mtNew]⟩
theorem zia (n : Int) (b : Nat) (hb0 : 0 < b) : ∃ k : Nat, k < b ∧ n % (b : Int) = k := ⟨(n % (b : Int)).toNat, by
 have h1 := Int.emod_nonneg n (show (b : Int) ≠ 0 by omega)
 have h2 := Int.emod_lt_of_pos n (show (0 : Int) < b by omega)
 exact ⟨by omega, by omega⟩⟩
def mtL (bs : List Int) (k : Nat) : Mt := ((bs.take k).map makeEvenI).foldl comes2 (mtNew 50)
theorem mtL_succ {bs : List Int} {k : Nat} (hk : k < bs.length) : mtL bs (k + 1) = comes2 (mtL bs k) (makeEvenI bs[k]) := by
 unfold mtL
 rw [List.take_add_one, List.getElem?_eq_getElem hk, List.map_append, List.foldl_append]
 rfl
theorem mtL_ok {bs : List Int} (hb0 : ∀ x ∈ bs, 0 ≤ x ∧ x < 256) : ∀ k : Nat, k ≤ bs.length → (mtL bs k).Ok (4 * k)
 | 0, _ => mtNew_okL (by decide) (by decide)
 | k + 1, hk => by
  have hk' : k < bs.length := hk
  rw [mtL_succ hk']
  have hr := hb0 _ (List.getElem_mem hk')
  have he := zfd hr.1 hr.2
  exact zbt (mtL_ok hb0 k (by omega)) he.1 he.2
def lt26 (x : Int) : Int := 97 + x % 26
theorem lt26_let (x : Int) : isLet (lt26 x) := by unfold isLet lt26; omega
def bsL (row col fg : Nat) (mk : Int) (ts : List Int) : List Int := preL row col fg ++ letL mk ts
theorem letL_len (mk : Int) (ts : List Int) : (letL mk ts).length = 3 * ts.length := by
 induction ts with
 | nil => rfl
 | cons t ts ih => simp only [letL, List.flatMap_cons, List.length_append, List.length_cons, List.length_nil] at ih ⊢; omega
theorem bsL_len (row col fg : Nat) (mk : Int) (ts : List Int) : (bsL row col fg mk ts).length = 6 + 3 * ts.length := by
 unfold bsL
 rw [List.length_append, letL_len]
 rfl
theorem bsL_rng {row col fg : Nat} (hr : row < 25) (hc : col < 10) (hf : fg < 8) {mk : Int} (hm : mk ∈ marksM) {ts : List Int} (ht : ∀ t ∈ ts, isLet t) : ∀ x ∈ bsL row col fg mk ts, 0 ≤ x ∧ x < 256 := by
 have hmk : 0 ≤ mk ∧ mk < 256 := (show ∀ x ∈ marksM, 0 ≤ x ∧ x < 256 by decide) mk hm
 intro x hx
 unfold bsL preL letL at hx
 rw [List.mem_append] at hx
 rcases hx with hx | hx
 ·simp only [List.mem_cons, List.not_mem_nil, or_false] at hx
  rcases hx with rfl | rfl | rfl | rfl | rfl | rfl <;> omega
 ·rw [List.mem_flatMap] at hx
  obtain ⟨t, h1, h2⟩ := hx
  have := ht t h1
  unfold isLet at this
  simp only [List.mem_cons, List.not_mem_nil, or_false] at h2
  rcases h2 with rfl | rfl | rfl <;> omega
theorem bsL_succ (row col fg : Nat) (mk : Int) (ts : List Int) {k : Nat} (hk : k < ts.length) : bsL row col fg mk (ts.take (k + 1)) = bsL row col fg mk (ts.take k) ++ [25, mk, ts[k]] := by
 unfold bsL
 rw [List.take_add_one, List.getElem?_eq_getElem hk, List.append_assoc]
 congr 1
 unfold letL
 rw [List.flatMap_append]
 rfl
structure ML where
 nx : Nat
 a : Nat
theorem zjs (tag : Nat) (row col : Int) (text : List Int) (htx : ∀ x ∈ text, 0 ≤ x ∧ x < 256) (mark colour : Int) :
  callω L T 7 tag [.int .i64 row, .int .i64 col, .isl 1 text.length (text.map (.int .u8)), .int .i64 mark, .int .i64 colour] [none, none, none, none, none] = some (.bool true, [none, none, none, none, none]) := by
 by_cases hq : 30 < text.length
 ·have hq2 : (text.length : Int) > 30 := by omega
  rw [za5 (show T 7 = some (.code a7) from rfl) rfl rfl]
  (have c1 := fun x1 => zhi x1; refine gox ?_; clear c1)
  (refine finx ?_; try with_reducible rfl)
  all_goals first | rfl
 have hq2 : ¬ (text.length : Int) > 30 := by omega
 obtain ⟨r0, hr0, er⟩ := zia row 24 (by decide)
 obtain ⟨c0, hc0, ec⟩ := zia col 10 (by decide)
 obtain ⟨f0, hf0, ef⟩ := zia colour 8 (by decide)
 obtain ⟨m0, hm0, em0⟩ := zia mark 5 (by decide)
 have cR := fun t => zga t row 24 (by decide) (by decide)
 have cC := fun t => zga t col 10 (by decide) (by decide)
 have cF := fun t => zga t colour 8 (by decide) (by decide)
 have cQ := fun t => zga t mark 5 (by decide) (by decide)
 have cN := fun t => t_mNew t 50 (by decide) (by decide)
 simp only [show (24 : Int) = ((24 : Nat) : Int) from rfl, er] at cR
 simp only [show (10 : Int) = ((10 : Nat) : Int) from rfl, ec] at cC
 simp only [show (8 : Int) = ((8 : Nat) : Int) from rfl, ef] at cF
 simp only [show (5 : Int) = ((5 : Nat) : Int) from rfl, em0] at cQ
 have l3 := Scr.shut sNew zbo
 have f3 := Scr.free sNew zbo
 have em : mtNew 50 = ⟨50, sNew, PS.start, [], 0, [], 0, [], 0, [], 0, [], [], [], [], 0⟩ := rfl
 simp only [em, Mt.mem, Mt.rest, Mt.cells, u8L, List.map_nil, List.length_nil, Nat.reduceAdd] at cN
 generalize hs0 : sNew.enc = s at cN l3 f3
 generalize hp0 : PS.start = p at cN em
 rw [za5 (show T 7 = some (.code a7) from rfl) rfl rfl]
 (have fA := aI @l3 @f3; have c1 := fun x1 => zhi x1; have c2 := fun x1 => cR x1; have c3 := fun x1 => cC x1; have c4 := fun x1 => cF x1; have c5 := fun x1 => cN x1; have c6 := fun x1 => cQ x1; refine gox ?_; clear fA c1 c2 c3 c4 c5 c6)
 subst hs0
 subst hp0
 have w1 : IntKind.i64.wrap ((r0 : Int) + 1) = ((r0 + 1 : Nat) : Int) := by rw [w_i64 (by omega) (by omega)]; omega
 have w2 : IntKind.u8.wrap (IntKind.i64.wrap (64 + ((r0 + 1 : Nat) : Int))) = 64 + ((r0 + 1 : Nat) : Int) := by rw [w_i64 (by omega) (by omega), w_u8 (by omega) (by omega)]
 have w3 : IntKind.u8.wrap (IntKind.i64.wrap (65 + (c0 : Int))) = 65 + (c0 : Int) := by rw [w_i64 (by omega) (by omega), w_u8 (by omega) (by omega)]
 have w4 : IntKind.u8.wrap (IntKind.i64.wrap (64 + (f0 : Int))) = 64 + (f0 : Int) := by rw [w_i64 (by omega) (by omega), w_u8 (by omega) (by omega)]
 obtain ⟨mk, hmk, hmk2⟩ : ∃ mk ∈ marksM, ∀ h, ([AV.int IntKind.u8 65, AV.int IntKind.u8 66, AV.int IntKind.u8 67, AV.int IntKind.u8 72, AV.int IntKind.u8 75] : List AV)[m0]'h = .int .u8 mk := by
  have : m0 = 0 ∨ m0 = 1 ∨ m0 = 2 ∨ m0 = 3 ∨ m0 = 4 := by omega
  rcases this with rfl | rfl | rfl | rfl | rfl
  ·exact ⟨65, by decide, fun _ => rfl⟩
  ·exact ⟨66, by decide, fun _ => rfl⟩
  ·exact ⟨67, by decide, fun _ => rfl⟩
  ·exact ⟨72, by decide, fun _ => rfl⟩
  ·exact ⟨75, by decide, fun _ => rfl⟩
 rw [hmk2, w1, w2, w3, w4]
 have hts : ∀ t ∈ text.map lt26, isLet t := fun t ht => by
  obtain ⟨x, _, rfl⟩ := List.mem_map.1 ht
  exact lt26_let x
 have htl : (text.map lt26).length = text.length := List.length_map ..
 generalize hT : text.map lt26 = ts at hts htl
 refine Eq.trans (zdn (X := ML) (fun _ _ => True) (fun k x => ⟨[(0, .int .i64 ((r0 + 1 : Nat) : Int)), (1, .int .i64 c0), (2, .isl 1 text.length (text.map (.int .u8))), (4, .int .i64 f0), (12, .ref 38400000 (tag, 1 + 1) 0), (14, .msl 55 (tag, x.a) 1 0 (6 + 3 * k)), (15, .int .u8 mk), (16, .int .i64 (k : Nat))],
  (55, ⟨(tag, x.a), (bsL (r0 + 1) c0 f0 mk (ts.take k)).map (.int .u8)⟩) :: (38400000, ⟨(tag, 1 + 1), (mtNew 50).cl 38400001000000 (tag, 1 + 1) (tag, 1 + 1)⟩) :: (mtNew 50).hpR 38400001000000 (tag, 1 + 1), x.nx, tag⟩) text.length (some (.bool true, [none, none, none, none, none])) ?_ ?_ ⟨1 + 1 + 1 + 1, 1 + 1 + 1⟩ trivial) rfl
 ·rintro k ⟨nx, w⟩ hk - ih
  simp only at ih ⊢
  have hk' : (k : Int) < (text.length : Int) := by omega
  have hkt : k < ts.length := by omega
  have gk : (List.map (AV.int IntKind.u8) text)[k]? = some (.int .u8 text[k]) := by simp [hk]
  have hw : IntKind.i64.wrap ((k : Int) + 1) = ((k + 1 : Nat) : Int) := zah hk (by omega)
  have hx := htx _ (List.getElem_mem hk)
  have w5 : IntKind.u8.wrap (97 + (text[k]).tmod 26) = ts[k] := by
   have e : ts[k] = lt26 text[k] := by subst hT; simp
   rw [e, Int.tmod_eq_emod_of_nonneg hx.1]
   exact w_u8 (by omega) (by omega)
  have ih2 := ih ⟨nx + 1 + 1, nx + 1⟩ trivial
  rw [bsL_succ _ _ _ _ _ hkt] at ih2
  refine Eq.trans ?_ ih2
  clear ih ih2
  have hl := bsL_len (r0 + 1) c0 f0 mk (ts.take k)
  rw [List.length_take, Nat.min_eq_left (by omega)] at hl
  generalize bsL (r0 + 1) c0 f0 mk (ts.take k) = bs at hl ⊢
  generalize text[k] = x at gk w5 hx
  generalize ts[k] = y at w5 ⊢
  have hlm : (List.map (AV.int IntKind.u8) bs).length = 6 + 3 * k := by rw [List.length_map, hl]
  have hbn : 6 + 3 * k + 3 ≤ 140737488355328 := by omega
  conv => lhs; simp only [Mt.cl, Mt.hpR, u8L, List.cons_append, List.nil_append, Nat.reduceAdd]
  (have fA := aI @gk (aI @hlm @hbn); refine gox ?_; clear fA)
  refine zaa ?_ ?_ rfl
  ·rw [hw]
   rfl
  ·rw [w5, List.map_append]
   rfl
 ·rintro ⟨nx, w⟩ -
  simp only
  have htk : ts.take text.length = ts := List.take_of_length_le (by omega)
  rw [htk]
  have hl := bsL_len (r0 + 1) c0 f0 mk ts
  rw [htl] at hl
  have hr24 : r0 + 1 < 25 := by omega
  have hbr := bsL_rng hr24 hc0 hf0 hmk hts
  have hfold := fold_all hr24 hc0 hf0 hmk hts
  have hinv := inv_all hr24 hmk ts _ _ (inv_pre (Nat.succ_pos r0) hr24 hc0 hf0) (by simp only [List.length_nil]; omega) hts
  rw [List.nil_append] at hinv
  have hbs : bsL (r0 + 1) c0 f0 mk ts = preL (r0 + 1) c0 f0 ++ letL mk ts := rfl
  rw [← hbs] at hfold
  generalize bsL (r0 + 1) c0 f0 mk ts = bs at hl hbr hfold ⊢
  clear hbs
  have cL := fun t => zmt t bs
  rw [hl] at cL
  have cL := fun t => cL t (by omega)
  have hel := zco bs
  rw [hl] at hel
  have hlm : (List.map (AV.int IntKind.u8) bs).length = 6 + 3 * text.length := by rw [List.length_map, hl]
  have hlt : (List.map (AV.int IntKind.u8) bs).take (6 + 3 * text.length) = List.map (AV.int IntKind.u8) bs := List.take_of_length_le (by omega)
  conv => lhs; simp only [Mt.cl, Mt.hpR, u8L, List.cons_append, List.nil_append, Nat.reduceAdd]
  (have fA := aI @hlm @hlt; have c1 := fun x1 => cL x1; refine gox ?_; clear fA c1)
  refine Eq.trans (zdn (X := ML) (fun _ _ => True) (fun k x => ⟨[(0, .int .i64 ((r0 + 1 : Nat) : Int)), (1, .int .i64 c0), (2, .isl 1 text.length (text.map (.int .u8))), (4, .int .i64 f0), (12, .ref 38400000 (tag, 2) 0), (14, .msl 78 (tag, nx) 1 0 (6 + 3 * text.length)), (15, .int .u8 mk), (17, .int .i64 (k : Nat))],
   (55, ⟨(tag, w), bs.map (.int .u8)⟩) :: (78, ⟨(tag, nx), (even bs).map (.int .u8)⟩) :: (38400000, ⟨(tag, 2), (mtL bs k).cl 38400001000000 (tag, x.a) (tag, x.a)⟩) :: (mtL bs k).hpR 38400001000000 (tag, x.a), x.nx, tag⟩) (6 + 3 * text.length) (some (.bool true, [none, none, none, none, none])) ?_ ?_ ⟨nx + 1, 2⟩ trivial) rfl
  ·clear hfold hinv
   rintro k ⟨nx2, a⟩ hk - ih
   simp only at ih ⊢
   have hkb : k < bs.length := by omega
   have hI := mtL_ok hbr k (by omega)
   have hJ := mtL_ok hbr (k + 1) (by omega)
   have hc := hbr _ (List.getElem_mem hkb)
   have hk' : (k : Int) < ((6 + 3 * text.length : Nat) : Int) := by omega
   have gk : (List.map (AV.int IntKind.u8) (even bs))[k]? = some (.int .u8 (makeEvenI bs[k])) := by simp [even, hkb]
   have hem : (List.map (AV.int IntKind.u8) (even bs)).length = 6 + 3 * text.length := by rw [List.length_map, hel]
   have hw : IntKind.i64.wrap ((k : Int) + 1) = ((k + 1 : Nat) : Int) := zah hk (by omega)
   have hE := zfd hc.1 hc.2
   have ih2 := ih ⟨nx2 + 1, nx2⟩ trivial
   rw [mtL_succ hkb] at ih2 hJ
   refine Eq.trans ?_ ih2
   clear ih ih2
   have cM1 := zg2 (tag + 1) (mtL bs k) (4 * k) (by omega) hI _ hE.1 hE.2
   generalize makeEvenI bs[k] = x at gk cM1 hE hJ ⊢
   have k1 := Scr.shut _ hI.scr
   have k2 := Scr.free _ hI.scr
   have k3 := Scr.shut _ hJ.scr
   have k4 := Scr.free _ hJ.scr
   clear hI hJ
   generalize comes2 (mtL bs k) x = M2 at cM1 k3 k4 ⊢
   generalize mtL bs k = M at cM1 k1 k2 ⊢
   conv => lhs; simp only [Mt.cl, Mt.hpR, u8L, List.cons_append, List.nil_append, Nat.reduceAdd]
   simp only [Mt.cells, Mt.rest, u8L, Nat.reduceAdd] at cM1
   generalize hs1 : M.scr.enc = s1 at k1 k2 cM1
   generalize hs3 : M2.scr.enc = s3 at k3 k4 cM1
   generalize List.map (AV.int IntKind.u8) (even bs) = F at gk hem ⊢
   (have fA := aI @k1 (aI @k2 (aI @k3 (aI @k4 (aI @gk (aI @hw @hem))))); have c1 := cM1; refine gox ?_; clear fA c1)
   subst hs3
   refine zaa ?_ rfl rfl
   rw [hw]
  ·rintro ⟨nx2, a⟩ -
   simp only
   have hML : mtL bs (6 + 3 * text.length) = mtS (scrL mk (scrP (r0 + 1) c0 f0) ts) [] := by
    unfold mtL
    rw [List.take_of_length_le (by omega), hfold]
   have hI := mtL_ok hbr (6 + 3 * text.length) (by omega)
   rw [hML] at hI ⊢
   have hS : (scrL mk (scrP (r0 + 1) c0 f0) ts).Ok := hI.scr
   clear hI hML hfold
   generalize scrL mk (scrP (r0 + 1) c0 f0) ts = S at hinv hS ⊢
   have cG1 := zj1 (tag + 1) (mtS S []) hS
   have cS1 := zg7 (tag + 1) (mtS S []) hS
   have cO1 := zj5 (tag + 1) (mtS S []) (by simp [mtS, mtNew])
   have ems : mtS S [] = ⟨50, S, PS.start, [], 0, [], 0, [], 0, [], 0, [], [], [], [], 0⟩ := rfl
   simp only [ems, enc14, Mt.vw, PS.enc, u8L, List.map_nil, List.length_nil] at cG1 cS1 cO1
   have hg : (gridL S).length = 1000 := zcf (fun k => zf0 ..) 25
   have gl : (flat Cell.enc (gridL S)).length = 10000 := by rw [Cell.flen, hg]
   have gp := Cell.pl (gridL S)
   have sl : stillL S.enc = true := zci fun c hc => zc5 (List.all_eq_true.mp (enc_pl hS) c hc)
   have hnl : ¬ ((6 + 3 * text.length : Nat) : Int) < ((6 + 3 * text.length : Nat) : Int) := by omega
   have hem : (List.map (AV.int IntKind.u8) (even bs)).length = 6 + 3 * text.length := by rw [List.length_map, hel]
   simp only [ems, Mt.cl, Mt.hpR, u8L, List.map_nil, List.length_nil, List.cons_append, List.nil_append, Nat.reduceAdd]
   generalize hse : S.enc = s at cG1 cS1 cO1 sl ⊢
   generalize hGe : flat Cell.enc (gridL S) = G at cG1 gl gp
   generalize List.map (AV.int IntKind.u8) (even bs) = F at hem ⊢
   generalize List.map (AV.int IntKind.u8) bs = F0
   (have fA := aI @sl (aI @gl (aI @gp @hem)); have c1 := cG1; refine gox ?_; clear fA c1)
   have hz : setR (repl 25 (repl 40 [AV.int .i64 0, .int .i64 0, .int .i64 0, .bool false, .bool false, .bool false, .bool false, .bool false, .int .i64 0, .int .i64 0])) 0 G = G := zbn (by rw [gl]; simp [repl])
   rw [hz]
   clear hz
   refine Eq.trans (zdn (X := ML) (fun _ _ => True) (fun k x => ⟨[(0, .int .i64 ((r0 + 1 : Nat) : Int)), (1, .int .i64 c0), (2, .isl 1 text.length (text.map (.int .u8))), (4, .int .i64 f0), (12, .ref 38400000 (tag, 2) 0), (15, .int .u8 mk), (18, .ref 18 (tag, nx2) 0), (19, .int .i64 (k : Nat))],
    (18, ⟨(tag, nx2), G⟩) :: (38400000, ⟨(tag, 2), [.int .i64 50, .ref 38400001000001 (tag, a) 0, .bool (PS.start.m 0), .bool (PS.start.m 1), .bool (PS.start.m 2), .bool (PS.start.m 3), .bool (PS.start.m 4), .bool (PS.start.m 5), .bool (PS.start.m 6), .bool (PS.start.m 7), .bool (PS.start.m 8), .bool (PS.start.m 9), .bool (PS.start.m 10), .bool (PS.start.m 11), .bool (PS.start.m 12), .bool (PS.start.m 13), .bool (PS.start.m 14), .bool (PS.start.m 15), .bool PS.start.roll, .bool PS.start.lower, .bool PS.start.ext, .bool PS.start.c0, .int .u8 PS.start.speed, .bool PS.start.echo, .msl 38400001000024 (tag, a) 1 0 0, .int .i64 0, .msl 38400001000026 (tag, a) 1 0 0, .int .i64 0, .msl 38400001000028 (tag, a) 1 0 0, .int .i64 0, .msl 38400001000030 (tag, a) 1 0 0, .int .i64 0, .msl 38400001000032 (tag, a) 1 0 0, .msl 38400001000033 (tag, a) 1 0 0, .msl 38400001000034 (tag, a) 1 0 0, .msl 38400001000035 (tag, a) 1 0 0, .int .i64 0]⟩) ::
     [(38400001000001, ⟨(tag, a), s⟩), (38400001000024, ⟨(tag, a), []⟩), (38400001000026, ⟨(tag, a), []⟩), (38400001000028, ⟨(tag, a), []⟩), (38400001000030, ⟨(tag, a), []⟩), (38400001000032, ⟨(tag, a), []⟩), (38400001000033, ⟨(tag, a), []⟩), (38400001000034, ⟨(tag, a), []⟩), (38400001000035, ⟨(tag, a), []⟩)], x.nx, tag⟩) text.length (some (.bool true, [none, none, none, none, none])) ?_ ?_ ⟨nx2 + 1, 0⟩ trivial) rfl
   ·rintro k ⟨nx3, a3⟩ hk - ih
    simp only at ih ⊢
    have hk' : (k : Int) < (text.length : Int) := by omega
    have hkt : k < ts.length := by omega
    have gk : (List.map (AV.int IntKind.u8) text)[k]? = some (.int .u8 text[k]) := by simp [hk]
    have hw : IntKind.i64.wrap ((k : Int) + 1) = ((k + 1 : Nat) : Int) := zah hk (by omega)
    have hx := htx _ (List.getElem_mem hk)
    have w5 : IntKind.u8.wrap (97 + (text[k]).tmod 26) = ts[k] := by
     have e : ts[k] = lt26 text[k] := by subst hT; simp
     rw [e, Int.tmod_eq_emod_of_nonneg hx.1]
     exact w_u8 (by omega) (by omega)
    have w6 : IntKind.i64.wrap ((c0 : Int) + (k : Int)) = ((c0 + k : Nat) : Int) := by rw [w_i64 (by omega) (by omega)]; omega
    have hlet := hts _ (List.getElem_mem hkt)
    have hmkr := (show ∀ x ∈ marksM, 0 ≤ x ∧ x < 256 by decide) mk hmk
    have hgs : ∀ g ∈ ts.map (mJoinI mk), (mOfW g).2.2 = false := by
     intro g hg
     obtain ⟨y, hy, rfl⟩ := List.mem_map.1 hg
     obtain ⟨n, hn, rfl⟩ := zp9 (hts y hy)
     exact (zoc mk hmk n hn).2.2
    obtain ⟨c, hc1, hc2, hc3⟩ := let_cell hinv hr24 (by rw [List.length_map]; omega) hgs (i := k) (by rw [List.length_map]; omega)
    have hcg : (ts.map (mJoinI mk)).getD k 0 = mJoinI mk ts[k] := by rw [List.getD_eq_getElem?_getD, List.getElem?_map, List.getElem?_eq_getElem hkt]; rfl
    rw [hcg] at hc2
    have hrd : (G.drop ((r0 + 1) * 400 + (c0 + k) * 10)).take 10 = c.enc := by
     obtain ⟨hlt', hce⟩ := List.getElem?_eq_some_iff.1 hc1
     have := Cell.rd hlt'
     rw [hce, hGe] at this
     rw [show (r0 + 1) * 400 + (c0 + k) * 10 = ((r0 + 1) * 40 + (c0 + k)) * 10 by omega, this]
     rfl
    have ih2 := ih ⟨nx3 + 1, 0⟩ trivial
    refine Eq.trans ?_ ih2
    clear ih ih2 hc1 hgs hinv hcg
    have cJ := zo7 (tag + 1) mk (IntKind.u8.wrap (97 + (text[k]).tmod 26)) hmkr.1 hmkr.2 (by rw [w5]; unfold isLet at hlet; omega) (by rw [w5]; unfold isLet at hlet; omega)
    rw [← w5] at hc2
    obtain ⟨glyph, fg, bg, flash, conceal, box, under, invert, high, wide⟩ := c
    simp only at hc2 hc3
    subst hc2
    subst hc3
    simp only [Cell.enc] at hrd
    generalize mJoinI mk (IntKind.u8.wrap (97 + (text[k]).tmod 26)) = q at cJ hrd
    have n1 : (q != q) = false := by simp
    have n2 : ((f0 : Int) != (f0 : Int)) = false := by simp
    have rr : ((r0 + 1 : Nat) : Int) < 25 := by omega
    have cc : ((c0 + k : Nat) : Int) < 40 := by omega
    clear w5 hlet hx
    generalize text[k] = x at gk cJ
    (have fA := aI @gk (aI @gl (aI @hrd @w6)); have c1 := cJ; refine gox ?_; clear fA c1)
    refine zaa ?_ rfl rfl
    rw [hw]
   ·rintro ⟨nx3, a3⟩ -
    simp only
    have hnl2 : ¬ (text.length : Int) < (text.length : Int) := by omega
    have hi1 : S.row = ((r0 + 1 : Nat) : Int) := hinv.row
    have hi2 : S.col = IntKind.i64.wrap ((c0 : Int) + (text.length : Int)) := by
     rw [hinv.col, List.length_map, htl, w_i64 (by omega) (by omega)]
     omega
    rw [hi1, hi2] at cS1
    have r1 : (((r0 + 1 : Nat) : Int) == ((r0 + 1 : Nat) : Int)) = true := beq_self_eq_true _
    have r2 : (IntKind.i64.wrap ((c0 : Int) + (text.length : Int)) == IntKind.i64.wrap ((c0 : Int) + (text.length : Int))) = true := beq_self_eq_true _
    (have fA := aI @sl (aI @gl @gp); have c1 := cS1; have c2 := cO1; refine gox ?_; clear fA c1 c2)
    (refine finx ?_; try with_reducible rfl)
    all_goals first | rfl
end
end Go.Proofs.YtbaenaalfpcaaaaGreatDoor
