/- Functions of the seat, worked off from their code: chunk page11. Written by program (tools/mkp.py) from wip/fn. -/
import Derived.Test.YtimcmpceekbfjaaSimT
import Derived.Test.YtimcmpceekbfjaaSimY
import Derived.Test.YtimcmpceekbfjaaPpage10
set_option maxRecDepth 100000
set_option maxHeartbeats 40000000
set_option linter.unusedSimpArgs false
set_option linter.unusedVariables false
namespace Go.Proofs.Ytimcmpceekbfjaa
open Go Go.Sim
attribute [local irreducible] chk brX getX strX setX takeX normX fillX lendX partsX opsX callK lentK giveX adoptX resX joinX headX loopX seqK blkK regK finX exOps ex eqT
attribute [local simp] setR_int setR_bool setR_zero setR_succ repl_int repl_bool List.getElem?_cons_zero List.getElem?_cons_succ List.getElem?_nil w_i64 w_u64 w_u8 bAnd_u8 bOr_u8 bXor_u8 bAndNot_u8 bShl_u8 wrap_u8_range all_plain_int all_plain_bool all_plain_app pl_bool pl_int pl_str pl_nilp pl_nsl pl_nilI pl_nilF take_map_len AV.cells TI.isAgg
attribute [local simp] Tr.flen Tr.rd Tr.g0 Tr.g1 Tr.g2 Tr.put Tr.pute Tr.s0 Tr.s1 Tr.s2 Tr.zero Tr.enc Hd.flen Hd.rd Hd.g0 Hd.g1 Hd.g2 Hd.g3 Hd.g4 Hd.g5 Hd.g6 Hd.g7 Hd.g8 Hd.g9 Hd.g10 Hd.g11 Hd.g12 Hd.g13 Hd.g14 Hd.put Hd.pute Hd.s0 Hd.s1 Hd.s2 Hd.s3 Hd.s4 Hd.s5 Hd.s6 Hd.s7 Hd.s8 Hd.s9 Hd.s10 Hd.s11 Hd.s12 Hd.s13 Hd.s14 Hd.zero Hd.enc

theorem hd_of {n : Nat} {cs : List AV} (h : zipShp (Shp L (n + 3)) [(0, 30), (3, 31), (14, 3)] cs) : ∃ x : Hd, cs = x.enc := by
  obtain ⟨a, r, rfl, ha, h1⟩ := zip_strct (show L 30 = some _ from rfl) h
  obtain ⟨x1, a1, rfl, _, ha⟩ := zip_int (show L 3 = some _ from rfl) ha
  obtain ⟨x2, a2, rfl, _, ha⟩ := zip_int (show L 3 = some _ from rfl) ha
  obtain ⟨x3, a3, rfl, _, ha⟩ := zip_int (show L 3 = some _ from rfl) ha
  obtain rfl := zip_nil ha
  obtain ⟨parts, r2, rfl, hl, hp, h2⟩ := zip_arr (show L 31 = some _ from rfl) h1
  obtain ⟨ys, e1, e2⟩ := bools_of_parts (n := n + 1) (show L 4 = some _ from rfl) parts hp
  obtain ⟨o, r3, rfl, _, h3⟩ := zip_int (show L 3 = some _ from rfl) h2
  obtain rfl := zip_nil h3
  rw [hl] at e2
  rw [e1]
  match ys, e2 with
  | [c0, c1, c2, c3, c4, c5, c6, c7, c8, c9, c10], _ => exact ⟨⟨x1, x2, x3, c0, c1, c2, c3, c4, c5, c6, c7, c8, c9, c10, o⟩, rfl⟩
theorem ints_flat {i : IntKind} {m : Nat} : ∀ parts : List (List AV), (∀ p ∈ parts, ∃ xs : List Int, p = xs.map (.int i) ∧ xs.length = m) → ∃ ys : List Int, parts.flatten = ys.map (.int i) ∧ ys.length = parts.length * m
  | [], _ => ⟨[], rfl, by simp⟩
  | p :: ps, h => by
    obtain ⟨xs, rfl, e⟩ := h p (by simp)
    obtain ⟨ys, e1, e2⟩ := ints_flat ps fun q hq => h q (by simp [hq])
    exact ⟨xs ++ ys, by rw [List.flatten_cons, e1, List.map_append], by rw [List.length_append, e, e2, List.length_cons, Nat.add_mul]; omega⟩
theorem pg_of {n : Nat} {cs : List AV} (h : zipShp (Shp L (n + 4)) [(0, 33), (15, 34), (1015, 35), (1040, 36), (1041, 37), (1059, 4), (1060, 3)] cs) :
    ∃ (p : Pg), p.Ok ∧ p.extra.length ≤ maxLen ∧ cs = p.enc (.isl 3 p.extra.length (flat Tr.enc p.extra)) := by
  obtain ⟨a, r, rfl, ha, h1⟩ := zip_strct (show L 33 = some _ from rfl) h
  obtain ⟨hd, rfl⟩ := hd_of (n := n) ha
  obtain ⟨rws, r2, rfl, hl2, hp2, h2⟩ := zip_arr (show L 34 = some _ from rfl) h1
  obtain ⟨rs, e1, e2⟩ := ints_flat (i := .u8) (m := 40) rws fun p hp => by
    obtain ⟨q, rfl, hq, hs⟩ := shp_arr (show L 22 = some _ from rfl) (hp2 p hp)
    obtain ⟨xs, x1, x2, _⟩ := ints_of_parts (n := n + 1) (show L 5 = some _ from rfl) q hs
    exact ⟨xs, x1, by omega⟩
  obtain ⟨ths, r3, rfl, hl3, hp3, h3⟩ := zip_arr (show L 35 = some _ from rfl) h2
  obtain ⟨th, e3, e4⟩ := bools_of_parts (n := n + 2) (show L 4 = some _ from rfl) ths hp3
  obtain ⟨exs, r4, rfl, hl4, hp4, h4⟩ := zip_slice (show L 36 = some _ from rfl) (show L 30 = some _ from rfl) h3
  obtain ⟨ex, e5, e6, _⟩ := Tr.parts (n := n + 1) (show L 30 = some _ from rfl) rfl exs hp4
  obtain ⟨lks, r5, rfl, hl5, hp5, h5⟩ := zip_arr (show L 37 = some _ from rfl) h4
  obtain ⟨ls, e7, e8⟩ := ints_flat (i := .i64) (m := 3) lks fun p hp => by
    have q := shp_strct (show L 30 = some _ from rfl) (hp5 p hp)
    obtain ⟨y1, b1, rfl, _, q⟩ := zip_int (show L 3 = some _ from rfl) q
    obtain ⟨y2, b2, rfl, _, q⟩ := zip_int (show L 3 = some _ from rfl) q
    obtain ⟨y3, b3, rfl, _, q⟩ := zip_int (show L 3 = some _ from rfl) q
    obtain rfl := zip_nil q
    exact ⟨[y1, y2, y3], rfl, rfl⟩
  obtain ⟨lk, r6, rfl, h6⟩ := zip_bool (show L 4 = some _ from rfl) h5
  obtain ⟨df, r7, rfl, _, h7⟩ := zip_int (show L 3 = some _ from rfl) h6
  obtain rfl := zip_nil h7
  refine ⟨⟨hd, rs, th, ex, ls, lk, df⟩, ⟨by simp only; omega, by simp only; omega, by simp only; omega⟩, by simp only; omega, ?_⟩
  simp only [Pg.enc]
  rw [e1, e3, e5, e6, e7]
theorem t_light (tag : Nat) (p : Pg) (hp : p.Ok) {x : AV} (hx : ExOK x p.extra) : callω L T 19 tag [.agg (p.enc x)] [none] = some (.bool (decide (p.extra.length ≤ 300)), [none]) := by
  rw [call_ex (show T 19 = some (.code a19) from rfl) rfl rfl]
  rcases hx with rfl | ⟨rfl, he⟩
  · (have fA := @pgs; refine gox ?_; clear fA)
    (refine finx ?_; try with_reducible rfl)
    congr 3
    simp only [decide_eq_decide]
    omega
  · (have fA := @pgs; refine gox ?_; clear fA)
    (refine finx ?_; try with_reducible rfl)
    simp [he]
theorem headF_is (p : Pg) (h : Hd) (t : List Int) (hp : p.Ok) {i : Nat} (hi : 1 ≤ i) : (headF p h t).is i = p.is i := by
  simp only [headF, Pg.is, Pg.setThere, Pg.setRow, Pg.setHd, List.getD_eq_getElem?_getD]
  rw [List.getElem?_set_ne (by omega)]
theorem headF_is0 (p : Pg) (h : Hd) (t : List Int) (hp : p.Ok) : (headF p h t).is 0 = true := by
  have := hp.there
  simp only [headF, Pg.is, Pg.setThere, Pg.setRow, Pg.setHd, List.getD_eq_getElem?_getD]
  rw [List.getElem?_set_self (by omega)]; rfl
theorem headF_row (p : Pg) (h : Hd) (t : List Int) (hp : p.Ok) {i : Nat} (hi : 1 ≤ i) : (headF p h t).row i = p.row i := by
  have := hp.rows
  have l1 := mrg_len (p.row 0) (blk8 t) (p.is 0)
  simp only [headF, Pg.row, Pg.setThere, Pg.setRow, Pg.setHd] at *
  generalize mrg _ _ _ = m at *
  obtain ⟨j, rfl⟩ : ∃ j, i = j + 1 := ⟨i - 1, by omega⟩
  have : (j + 1) * 40 = m.length + j * 40 := by omega
  simp only [Nat.zero_mul, List.take_zero, List.nil_append, Nat.zero_add]
  rw [this, ← List.drop_drop, List.drop_append_of_le_length (by omega), List.drop_length, List.nil_append, List.drop_drop]
  congr 2
  omega
theorem headF_line (p : Pg) (h : Hd) (t : List Int) (hp : p.Ok) {i : Nat} (hi : 1 ≤ i) : lineF (headF p h t) i = lineF p i := by
  unfold lineF
  simp only [Int.toNat_natCast]
  rw [headF_is p h t hp hi, headF_row p h t hp hi]

end Go.Proofs.Ytimcmpceekbfjaa
