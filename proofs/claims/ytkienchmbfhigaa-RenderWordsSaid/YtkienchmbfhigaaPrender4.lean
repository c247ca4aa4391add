/- Functions of the seat, worked off from their code: chunk render4. Written by program (tools/mkp.py) from wip/fn. -/
import Derived.Test.YtkienchmbfhigaaSimT
import Derived.Test.YtkienchmbfhigaaSimY
import Derived.Test.YtkienchmbfhigaaPrender2
set_option maxRecDepth 100000
set_option maxHeartbeats 40000000
set_option linter.unusedSimpArgs false
set_option linter.unusedVariables false
namespace Go.Proofs.Ytkienchmbfhigaa
open Go Go.Sim
attribute [local irreducible] chk brX getX strX setX takeX normX fillX lendX partsX opsX callK lentK lentR giveX adoptX resX joinX headX loopX seqK blkK regK finX exOps ex eqT
attribute [local simp] setR_int setR_bool setR_zero setR_succ repl_int repl_bool List.getElem?_cons_zero List.getElem?_cons_succ List.getElem?_nil w_i64 w_u64 w_u8 bAnd_u8 bOr_u8 bXor_u8 bAndNot_u8 bShl_u8 wrap_u8_range all_plain_int all_plain_bool all_plain_app pl_bool pl_int pl_str pl_nilp pl_nsl pl_nilI pl_nilF take_map_len AV.cells TI.isAgg
attribute [local simp] Cell.flen Cell.rd Cell.g0 Cell.g1 Cell.g2 Cell.g3 Cell.g4 Cell.g5 Cell.g6 Cell.g7 Cell.g8 Cell.g9 Cell.put Cell.pute Cell.s0 Cell.s1 Cell.s2 Cell.s3 Cell.s4 Cell.s5 Cell.s6 Cell.s7 Cell.s8 Cell.s9 Cell.zero Cell.enc

def signB (g : Int) : Int := if (mOf g).2.2 = true then 35 else if 32 ≤ g ∧ g ≤ 126 then g else 63
theorem signB_rng (g : Int) : 0 ≤ signB g ∧ signB g < 256 := by
  unfold signB
  split
  · omega
  · split <;> omega
def okG (g : Int) : Prop := 0 ≤ g ∧ g < 4194304
theorem t_sign (tag : Nat) (g : Int) (hg : okG g) : callω L T 25 tag [.int .i64 g] [none] = some (.int .u8 (signB g), [none]) := by
  rw [call_ex (show T 25 = some (.code a25) from rfl) rfl rfl]
  obtain ⟨h0, h1⟩ := hg
  have tm := t_mosaic_Of (tag + 1) g (by omega) (by omega)
  unfold signB
  cases hm : (mOf g).2.2
  · rw [hm] at tm
    rw [if_neg (by decide)]
    by_cases h2 : 32 ≤ g
    · by_cases h3 : g ≤ 126
      · rw [if_pos ⟨h2, h3⟩]
        have w : IntKind.u8.wrap g = g := w_u8 (by omega) (by omega)
        (have fA := @w; have c1 := tm; refine gox ?_; clear fA c1)
        (refine finx ?_; try with_reducible rfl)
        try rw [w]
      · rw [if_neg (by omega)]
        (have c1 := tm; refine gox ?_; clear c1)
        (refine finx ?_; try with_reducible rfl)
        try rfl
    · rw [if_neg (by omega)]
      (have c1 := tm; refine gox ?_; clear c1)
      (refine finx ?_; try with_reducible rfl)
      try rfl
  · rw [hm] at tm
    rw [if_pos rfl]
    (have c1 := tm; refine gox ?_; clear c1)
    (refine finx ?_; try with_reducible rfl)
    try rfl
def rowS (g : List Cell) (r : Nat) : List Int := ((g.drop (r * 40)).take 40).map fun c => signB c.glyph
def texts (g : List Cell) (k : Nat) : List AV := (List.range k).map fun r => .str (strOfNums (rowS g r))
theorem texts_len (g : List Cell) (k : Nat) : (texts g k).length = k := by simp [texts]
theorem texts_pl (g : List Cell) (k : Nat) : (texts g k).all AV.plain = true := by simp [texts, AV.plain]
theorem texts_more (g : List Cell) (r : Nat) : texts g r ++ [.str (strOfNums (rowS g r))] = texts g (r + 1) := by
  unfold texts
  rw [List.range_succ, List.map_append]; rfl
def tk8 (l : List Int) (k : Nat) : List AV := (l.take k).map (.int .u8)
theorem tk8_len {l : List Int} {k : Nat} (h : k ≤ l.length) : (tk8 l k).length = k := by simp [tk8]; omega
theorem tk8_more {l : List Int} {k : Nat} (h : k < l.length) : tk8 l k ++ [.int .u8 (l.getD k 0)] = tk8 l (k + 1) := by
  unfold tk8
  rw [List.take_add_one, List.getElem?_eq_getElem h, List.getD_eq_getElem?_getD, List.getElem?_eq_getElem h, List.map_append]
  rfl
theorem tk8_all (l : List Int) : tk8 l l.length = l.map (.int .u8) := by rw [tk8, List.take_length]
theorem tk8_zero (l : List Int) : tk8 l 0 = [] := by simp [tk8]
theorem texts_zero (g : List Cell) : texts g 0 = [] := rfl
attribute [local irreducible] tk8 texts
theorem t_Text (tag : Nat) (g : List Cell) (hl : g.length = 1000) (hg : ∀ c ∈ g, okG c.glyph) : callω L T 13 tag [.agg (flat Cell.enc g)] [none] = some (.fsl 1 25 (texts g 25), [none]) := by
  rw [call_ex (show T 13 = some (.code a13) from rfl) rfl rfl]
  have lg := Cell.flen g
  rw [hl] at lg
  have tg : (flat Cell.enc g).take 10000 = flat Cell.enc g := List.take_of_length_le (by omega)
  (have fA := And.intro @lg @tg; refine gox ?_; clear fA)
  refine Eq.trans (head_eq (heap' := [(3, ⟨(tag, 1 + 1 + 1), texts g 0⟩)]) rfl (by rw [texts_zero]) rfl) ?_
  refine headX_for (fun _ (_ : Nat × Nat) => True) (fun r (x : Nat × Nat) => ⟨[(3, .msl 3 (tag, x.1) 1 0 r), (9, .agg (flat Cell.enc g)), (10, .int .i64 r)], [(3, ⟨(tag, x.1), texts g r⟩)], x.2, tag⟩) 25 _ ?_ ?_ (1 + 1 + 1, 1 + 1 + 1 + 1) trivial
  · rintro r ⟨st, nx⟩ hr - ih
    dsimp only at ih ⊢
    have hrow := cget (g := g) (r := r)
    have lt := texts_len g r
    have lrow : ((g.drop (r * 40)).take 40).length = 40 := by rw [List.length_take, List.length_drop, hl]; omega
    have lcr := Cell.flen ((g.drop (r * 40)).take 40)
    rw [lrow] at lcr
    have hgr : ∀ c ∈ (g.drop (r * 40)).take 40, okG c.glyph := fun c hc => hg c (List.mem_of_mem_drop (List.mem_of_mem_take hc))
    have htm := texts_more g r
    have hrs : rowS g r = ((g.drop (r * 40)).take 40).map fun c => signB c.glyph := rfl
    generalize rowS g r = rs at *
    generalize (g.drop (r * 40)).take 40 = rw0 at *
    have lrs : rs.length = 40 := by rw [hrs, List.length_map, lrow]
    have hcr := fun k (hk : k < 40) => Cell.g0 (xs := rw0) (i := k) (by omega)
    have hcd := fun k (hk : k < 40) => Cell.rd (xs := rw0) (i := k) (by omega)
    have hsg := fun k (hk : k < 40) => t_sign (tag + 1) (rw0[k]'(by omega)).glyph (hgr _ (List.getElem_mem _))
    have hrk : ∀ k (hk : k < 40), rs.getD k 0 = signB (rw0[k]'(by omega)).glyph := fun k hk => by
      rw [hrs, List.getD_eq_getElem?_getD, List.getElem?_map, List.getElem?_eq_getElem (by omega)]; rfl
    have sL : setR (repl 40 [AV.int IntKind.i64 0, AV.int IntKind.i64 0, AV.int IntKind.i64 0, AV.bool false, AV.bool false, AV.bool false, AV.bool false, AV.bool false, AV.int IntKind.i64 0, AV.int IntKind.i64 0]) 0 (flat Cell.enc rw0) = flat Cell.enc rw0 := setR_all (by rw [zr40]; omega)
    have tL : List.take 400 (flat Cell.enc rw0) = flat Cell.enc rw0 := List.take_of_length_le (by omega)
    clear tg hrs
    generalize flat Cell.enc g = cg at *
    (have fA := And.intro @lg (And.intro @hrow (And.intro @lt (And.intro @lcr (And.intro @sL @tL)))); refine gox ?_; clear fA)
    refine Eq.trans (head_eq (env' := [(3, .msl 3 (tag, st) 1 0 r), (6, .msl 6 (tag, nx + 1) 1 0 0), (9, .agg cg), (10, .int .i64 r), (13, .agg (flat Cell.enc rw0)), (14, .int .i64 ((0 : Nat) : Int))]) (heap' := [(3, ⟨(tag, st), texts g r⟩), (6, ⟨(tag, nx + 1), tk8 rs 0⟩)]) rfl (by rw [tk8_zero]) rfl) ?_
    refine headX_for (fun _ (_ : Nat × Nat) => True) (fun k (x : Nat × Nat) => ⟨[(3, .msl 3 (tag, st) 1 0 r), (6, .msl 6 (tag, x.1) 1 0 k), (9, .agg cg), (10, .int .i64 r), (13, .agg (flat Cell.enc rw0)), (14, .int .i64 k)], [(3, ⟨(tag, st), texts g r⟩), (6, ⟨(tag, x.1), tk8 rs k⟩)], x.2, tag⟩) 40 _ ?_ ?_ (nx + 1, nx + 1 + 1) trivial
    · rintro k ⟨s2, n2⟩ hk - ih2
      dsimp only at ih2 ⊢
      have hcr := hcr k hk
      have hcd := hcd k hk
      have hsg := hsg k hk
      rw [← hrk k hk] at hsg
      have m8 := tk8_more (l := rs) (k := k) (by omega)
      have l8 := tk8_len (l := rs) (k := k) (by omega)
      refine Eq.trans ?_ (ih2 (n2 + 1 + 1, n2 + 1 + 1 + 1) trivial)
      clear ih ih2 hrk sL tL
      generalize tk8 rs (k + 1) = b2 at *
      generalize tk8 rs k = b1 at *
      generalize rs.getD k 0 = v at *
      generalize flat Cell.enc rw0 = cr at *
      generalize rw0[k]'(by omega) = y at *
      (have fA := And.intro @lcr (And.intro @hcr (And.intro @hcd (And.intro @l8 (@List.drop_zero AV)))); have c1 := hsg; refine gox ?_; clear fA c1)
      refine head_eq ?_ (by rw [← m8]; rfl) rfl
      simp [wrap_succ hk (by omega)]
    · rintro ⟨s2, n2⟩ -
      dsimp only
      have h8 := tk8_all rs
      rw [lrs] at h8
      rw [h8]
      have lr8 : (rs.map (AV.int .u8)).length = 40 := by rw [List.length_map, lrs]
      have tk8' : (rs.map (AV.int .u8)).take 40 = rs.map (.int .u8) := List.take_of_length_le (by omega)
      refine Eq.trans ?_ (ih (n2 + 1, n2 + 1 + 1) trivial)
      clear ih hcd hcr hsg hrk sL tL hgr
      generalize flat Cell.enc rw0 = cr at *
      (have fA := And.intro @lt (And.intro @lr8 (And.intro @tk8' (And.intro @htm (@List.drop_zero AV)))); refine gox ?_; clear fA)
      refine head_eq ?_ (by rw [← htm]; rfl) rfl
      simp [wrap_succ hr (by omega)]
  · rintro ⟨st, nx⟩ -
    have lt := texts_len g 25
    have hp := texts_pl g 25
    dsimp only
    generalize texts g 25 = tx at *
    (have fA := And.intro @lg (And.intro @tg @lt); refine gox ?_; clear fA)
    (have fA := And.intro @lt @hp; refine finx ?_; clear fA; try with_reducible rfl)

end Go.Proofs.Ytkienchmbfhigaa
