/- Functions of the seat, worked off from their code: chunk glyphs. Written by program (tools/mkp.py) from wip/fn. -/
import Derived.Test.YtkienchmbfhigaaSimT
import Derived.Test.YtkienchmbfhigaaSimY
import Derived.Test.YtkienchmbfhigaaPrender4
import Derived.Test.YtkienchmbfhigaaPrender3
set_option maxRecDepth 100000
set_option maxHeartbeats 40000000
set_option linter.unusedSimpArgs false
set_option linter.unusedVariables false
namespace Go.Proofs.Ytkienchmbfhigaa
open Go Go.Sim
attribute [local irreducible] chk brX getX strX setX takeX normX fillX lendX partsX opsX callK lentK lentR giveX adoptX resX joinX headX loopX seqK blkK regK finX exOps ex eqT
attribute [local simp] setR_int setR_bool setR_zero setR_succ repl_int repl_bool List.getElem?_cons_zero List.getElem?_cons_succ List.getElem?_nil w_i64 w_u64 w_u8 bAnd_u8 bOr_u8 bXor_u8 bAndNot_u8 bShl_u8 wrap_u8_range all_plain_int all_plain_bool all_plain_app pl_bool pl_int pl_str pl_nilp pl_nsl pl_nilI pl_nilF take_map_len AV.cells TI.isAgg
attribute [local simp] Cell.flen Cell.rd Cell.g0 Cell.g1 Cell.g2 Cell.g3 Cell.g4 Cell.g5 Cell.g6 Cell.g7 Cell.g8 Cell.g9 Cell.put Cell.pute Cell.s0 Cell.s1 Cell.s2 Cell.s3 Cell.s4 Cell.s5 Cell.s6 Cell.s7 Cell.s8 Cell.s9 Cell.zero Cell.enc Tr.flen Tr.rd Tr.g0 Tr.g1 Tr.g2 Tr.put Tr.pute Tr.s0 Tr.s1 Tr.s2 Tr.zero Tr.enc Sp.flen Sp.rd Sp.g0 Sp.g1 Sp.g2 Sp.put Sp.pute Sp.s0 Sp.s1 Sp.s2 Sp.zero Sp.enc Hd.flen Hd.rd Hd.g0 Hd.g1 Hd.g2 Hd.g3 Hd.g4 Hd.g5 Hd.g6 Hd.g7 Hd.g8 Hd.g9 Hd.g10 Hd.g11 Hd.g12 Hd.g13 Hd.g14 Hd.put Hd.pute Hd.s0 Hd.s1 Hd.s2 Hd.s3 Hd.s4 Hd.s5 Hd.s6 Hd.s7 Hd.s8 Hd.s9 Hd.s10 Hd.s11 Hd.s12 Hd.s13 Hd.s14 Hd.zero Hd.enc At.flen At.rd At.g0 At.g1 At.g2 At.g3 At.g4 At.g5 At.g6 At.g7 At.g8 At.g9 At.g10 At.put At.pute At.s0 At.s1 At.s2 At.s3 At.s4 At.s5 At.s6 At.s7 At.s8 At.s9 At.s10 At.zero At.enc

theorem okG_bk : okG bk.glyph := ⟨by decide, by decide⟩
theorem ok32 : okG 32 := ⟨by decide, by decide⟩
theorem okG_dec {x : Int} (h : decide (0 ≤ x ∧ x < 4194304) = true) : okG x := by
  have := of_decide_eq_true h
  exact this
theorem okG_getD {l : List Int} (h : (l.all fun x => decide (0 ≤ x ∧ x < 4194304)) = true) (k : Nat) : okG (l.getD k 0) := by
  rw [List.getD_eq_getElem?_getD]
  by_cases hk : k < l.length
  · rw [List.getElem?_eq_getElem hk]
    exact okG_dec (List.all_eq_true.1 h _ (List.getElem_mem hk))
  · rw [List.getElem?_eq_none (by omega)]
    exact ⟨by decide, by decide⟩
theorem ok_tab (o k : Nat) : okG (tabI o k) := by
  have h : (tabL.all fun l => l.all fun x => decide (0 ≤ x ∧ x < 4194304)) = true := by decide +kernel
  unfold tabI
  refine okG_getD ?_ k
  rw [List.getD_eq_getElem?_getD]
  by_cases ho : o < tabL.length
  · rw [List.getElem?_eq_getElem ho]
    exact List.all_eq_true.1 h _ (List.getElem_mem ho)
  · rw [List.getElem?_eq_none (by omega)]; rfl
theorem ok_char (o c : Int) : okG (charI o c) := by
  unfold charI
  dsimp only
  split
  · unfold lplainI
    have := a127 c
    dsimp only
    split
    · exact ⟨by decide, by decide⟩
    · split
      · exact ⟨by decide, by decide⟩
      · exact ⟨by omega, by omega⟩
  · exact ok_tab _ _
theorem ok_mG (p : Int) (s : Bool) : okG (mGlyphI p s) := by
  unfold mGlyphI
  split <;> exact ⟨by omega, by omega⟩
theorem held_dbl {s : At} (h : okG s.held) (on : Bool) : okG (dblF s on).held := by
  unfold dblF
  dsimp only
  split
  · exact h
  · exact ⟨by decide, by decide⟩
theorem held_col {s : At} (h : okG s.held) (f : Int) (m : Bool) : okG (colF s f m).held := by
  unfold colF
  dsimp only
  split
  · exact h
  · exact ⟨by decide, by decide⟩
theorem held_at {s : At} (h : okG s.held) (c : Int) : okG (atF s c).held := by
  unfold atF
  split
  · exact h
  · split
    · exact held_dbl h _
    · split
      · exact h
      · split
        · exact h
        · split
          · exact h
          · split
            · exact h
            · split
              · exact h
              · split
                · split <;> exact h
                · exact h
theorem held_behind {s : At} (h : okG s.held) (c : Int) : okG (behindF s c).held := by
  unfold behindF
  split
  · exact held_col h _ _
  · split
    · exact held_col h _ _
    · split
      · exact h
      · split
        · exact held_dbl h _
        · split <;> exact h
theorem glyph_ok {s : At} (h : okG s.held) (c o : Int) : okG (glyphF s c o).1 ∧ okG (glyphF s c o).2 := by
  unfold glyphF
  split
  · split
    · exact ⟨h, h⟩
    · exact ⟨ok32, h⟩
  · split
    · exact ⟨ok_mG _ _, ok_mG _ _⟩
    · exact ⟨ok_char _ _, h⟩
theorem step_ok {s : At} (h : okG s.held) (b o : Int) : okG (stepF s b o).1.held ∧ okG (stepF s b o).2.glyph := by
  have g := glyph_ok (held_at h (bAnd .u8 b 127)) (bAnd .u8 b 127) o
  refine ⟨?_, g.1⟩
  exact held_behind (s := { atF s (bAnd .u8 b 127) with held := (glyphF (atF s (bAnd .u8 b 127)) (bAnd .u8 b 127) o).2 }) g.2 _
theorem st_ok (bs : List Int) (o : Int) : ∀ k, okG (stF bs o k).held
  | 0 => ok32
  | k + 1 => (step_ok (st_ok bs o k) _ _).1
theorem ce_ok (bs : List Int) (o : Int) (k : Nat) : okG (ceF bs o k).glyph := (step_ok (st_ok bs o k) _ _).2
def GL (l : List Cell) : Prop := ∀ c ∈ l, okG c.glyph
theorem rowL_ok (bs : List Int) (o : Int) (k : Nat) : GL (rowL bs o k) := by
  intro c hc
  obtain ⟨j, _, rfl⟩ := List.mem_map.1 hc
  split
  · exact ce_ok _ _ _
  · exact ⟨by decide, by decide⟩
def gAll (l : List Pr) : Bool := l.all fun p => decide (0 ≤ p.glyph ∧ p.glyph < 4194304)
theorem gAll_ite {c : Prop} [Decidable c] {a b : List Pr} (h1 : gAll a = true) (h2 : gAll b = true) : gAll (if c then a else b) = true := by
  split
  · exact h1
  · exact h2
theorem pairs_ok (m : Int) : ((pairsL m).all fun p => decide (0 ≤ p.glyph ∧ p.glyph < 4194304)) = true := by
  show gAll (pairsL m) = true
  unfold pairsL moreL
  iterate 12 (refine gAll_ite (by decide +kernel) ?_)
  decide
theorem find_ok : ∀ (l : List Pr) (c g : Int), (l.all fun p => decide (0 ≤ p.glyph ∧ p.glyph < 4194304)) = true → find1 l c = some g → okG g
  | [], c, g, _, h => by cases h
  | p :: ps, c, g, ha, h => by
    rw [List.all_cons, Bool.and_eq_true] at ha
    unfold find1 at h
    split at h
    · cases h; exact okG_dec ha.1
    · exact find_ok ps c g ha.2 h
theorem ok_plain (c : Int) : okG (plainI c) := by
  unfold plainI
  split
  · exact ⟨by decide, by decide⟩
  · split
    · exact ⟨by decide, by decide⟩
    · exact ⟨by omega, by omega⟩
theorem ok_join (m c : Int) : okG (joinI m c) := by
  unfold joinI
  split
  · exact ⟨by decide, by decide⟩
  · split
    · rename_i g hg
      exact find_ok _ _ _ (pairs_ok m) hg
    · split
      · exact ⟨by decide, by decide⟩
      · exact ok_plain _
theorem ok_sign (c : Int) : okG (signI c) := by
  unfold signI
  split
  · exact ⟨by decide, by decide⟩
  · exact okG_getD (by decide +kernel) _
theorem glyphI_ok (t : Tr) : okG (glyphI t).1 := by
  unfold glyphI
  split
  · exact ⟨by decide, by decide⟩
  · split
    · exact ok_sign _
    · split
      · exact ok_join _ _
      · exact ⟨by decide, by decide⟩
theorem spots_ok : ∀ (l : List Tr) (r : Int), ∀ s ∈ spotsF l r, okG s.glyph
  | [], _, s, h => by cases h
  | t :: ts, r, s, h => by
    unfold spotsF at h
    split at h
    · split at h
      · cases h
      · exact spots_ok ts _ s h
    · split at h
      · rcases List.mem_cons.1 h with rfl | h
        · exact glyphI_ok t
        · exact spots_ok ts _ s h
      · exact spots_ok ts _ s h
theorem lay_ok (row : Int) : ∀ (l : List Sp) (cs : List Cell), GL cs → (∀ s ∈ l, okG s.glyph) → GL (layF row cs l)
  | [], cs, h, _ => h
  | s :: l, cs, h, hs => by
    refine lay_ok row l (layC row cs s) ?_ (fun x hx => hs x (List.mem_cons_of_mem _ hx))
    unfold layC
    split
    · intro c hc
      rcases List.mem_or_eq_of_mem_set hc with hc | rfl
      · exact h c hc
      · exact hs s (List.mem_cons_self ..)
    · exact h
theorem rowR_ok (p : Pg) (r : Nat) : GL (rowR p r) := lay_ok _ _ _ (rowL_ok _ _ _) (spots_ok _ _)
theorem fl0_ok {l : List Cell} (h : GL l) : GL (l.map fl0) := by
  intro c hc
  obtain ⟨d, hd, rfl⟩ := List.mem_map.1 hc
  exact h d hd
theorem low_ok {l : List Cell} (h : GL l) : GL (l.map lowC) := by
  intro c hc
  obtain ⟨d, hd, rfl⟩ := List.mem_map.1 hc
  unfold lowC
  split
  · exact h d hd
  · exact ok32
theorem gridR_ok (p : Pg) : ∀ r, GL (gridR p r)
  | 0 => fl0_ok (rowR_ok p 0)
  | r + 1 => by
    unfold gridR
    split
    · exact low_ok (gridR_ok p r)
    · split
      · exact fl0_ok (rowR_ok p _)
      · exact rowR_ok p _
theorem gridF_ok (p : Pg) (i : Nat) : okG (gridF p i).glyph := by
  unfold gridF
  rw [List.getD_eq_getElem?_getD]
  by_cases hi : i % 40 < (gridR p (i / 40)).length
  · rw [List.getElem?_eq_getElem hi]
    exact gridR_ok p _ _ (List.getElem_mem hi)
  · rw [List.getElem?_eq_none (by omega)]
    exact ⟨by decide, by decide⟩
theorem shown_ok {c : Cell} (h : okG c.glyph) (boxed rev mix : Bool) : okG (shownC c boxed rev mix).glyph := by
  have h1 : okG (if c.conceal = true ∧ rev = false then { c with glyph := 32 } else c : Cell).glyph := by
    split
    · exact ok32
    · exact h
  unfold shownC
  dsimp only
  generalize (if c.conceal = true ∧ rev = false then { c with glyph := 32 } else c : Cell) = c1 at *
  have h2 : okG (if boxed = true ∧ c1.box = false then bk else c1 : Cell).glyph := by
    split
    · exact okG_bk
    · exact h1
  generalize (if boxed = true ∧ c1.box = false then bk else c1 : Cell) = c2 at *
  split
  · exact h2
  · exact h2
theorem pageC_ok (p : Pg) (rev mix : Bool) (i : Nat) : okG (pageC p rev mix i).glyph := by
  unfold pageC
  refine shown_ok ?_ _ _ _
  unfold baseC
  split
  · exact okG_bk
  · exact gridF_ok p i

end Go.Proofs.Ytkienchmbfhigaa
