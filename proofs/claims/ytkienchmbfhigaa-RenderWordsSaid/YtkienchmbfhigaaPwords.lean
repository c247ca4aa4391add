/- Functions of the seat, worked off from their code: chunk words. Written by program (tools/mkp.py) from wip/fn. -/
import Derived.Test.YtkienchmbfhigaaSimT
import Derived.Test.YtkienchmbfhigaaSimY
import Derived.Test.YtkienchmbfhigaaPglyphs
import Derived.Test.YtkienchmbfhigaaPsamec
set_option maxRecDepth 100000
set_option maxHeartbeats 40000000
set_option linter.unusedSimpArgs false
set_option linter.unusedVariables false
namespace Go.Proofs.Ytkienchmbfhigaa
open Go Go.Sim
attribute [local irreducible] chk brX getX strX setX takeX normX fillX lendX partsX opsX callK lentK lentR giveX adoptX resX joinX headX loopX seqK blkK regK finX exOps ex eqT
attribute [local simp] setR_int setR_bool setR_zero setR_succ repl_int repl_bool List.getElem?_cons_zero List.getElem?_cons_succ List.getElem?_nil w_i64 w_u64 w_u8 bAnd_u8 bOr_u8 bXor_u8 bAndNot_u8 bShl_u8 wrap_u8_range all_plain_int all_plain_bool all_plain_app pl_bool pl_int pl_str pl_nilp pl_nsl pl_nilI pl_nilF take_map_len AV.cells TI.isAgg
attribute [local simp] Cell.flen Cell.rd Cell.g0 Cell.g1 Cell.g2 Cell.g3 Cell.g4 Cell.g5 Cell.g6 Cell.g7 Cell.g8 Cell.g9 Cell.put Cell.pute Cell.s0 Cell.s1 Cell.s2 Cell.s3 Cell.s4 Cell.s5 Cell.s6 Cell.s7 Cell.s8 Cell.s9 Cell.zero Cell.enc

def sAt (s : ByteArray) (k : Nat) : Int := (((s[k]?).getD 0).toNat : Int)
theorem sAt_rng (s : ByteArray) (k : Nat) : 0 ≤ sAt s k ∧ sAt s k < 256 := by
  unfold sAt
  have := ((s[k]?).getD 0).toNat_lt
  omega
theorem sAt_get {s : ByteArray} {k : Nat} (h : k < s.size) : ∃ b : UInt8, s[k]? = some b ∧ (b.toNat : Int) = sAt s k := by
  refine ⟨s[k], getElem?_pos s k h, ?_⟩
  unfold sAt
  rw [getElem?_pos s k h]; rfl
def wch (x : Int) : Int := if 32 ≤ x ∧ x ≤ 126 then x else 32
def wcell (s : ByteArray) (j : Nat) : Cell := ⟨wch (sAt s j), 7, 0, false, false, false, false, false, 0, 0⟩
def wordG (g : List Cell) (s : ByteArray) (pos k : Nat) : List Cell := (List.range g.length).map fun i => if pos ≤ i ∧ i < pos + k then wcell s (i - pos) else g.getD i Cell.none
theorem wordG_len (g : List Cell) (s : ByteArray) (pos k : Nat) : (wordG g s pos k).length = g.length := by simp [wordG]
theorem wordG_get (g : List Cell) (s : ByteArray) (pos k : Nat) {i : Nat} (hi9 : i < (wordG g s pos k).length) : (wordG g s pos k)[i] = if pos ≤ i ∧ i < pos + k then wcell s (i - pos) else g.getD i Cell.none := by simp [wordG]
theorem wordG_zero (g : List Cell) (s : ByteArray) (pos : Nat) : wordG g s pos 0 = g := by
  apply List.ext_getElem
  · exact wordG_len ..
  · intro i h1 h2
    rw [wordG_get, if_neg (by omega), List.getD_eq_getElem?_getD, List.getElem?_eq_getElem h2]; rfl
theorem wordG_set {g : List Cell} {s : ByteArray} {pos k : Nat} (hi9 : pos + k < g.length) : (wordG g s pos k).set (pos + k) (wcell s k) = wordG g s pos (k + 1) := by
  apply List.ext_getElem
  · simp [wordG_len]
  · intro i h1 h2
    rw [List.getElem_set]
    by_cases e : pos + k = i
    · rw [if_pos e, wordG_get, if_pos (by omega), show i - pos = k by omega]
    · rw [if_neg e, wordG_get, wordG_get]
      by_cases q : pos ≤ i ∧ i < pos + k
      · rw [if_pos q, if_pos (by omega)]
      · rw [if_neg q, if_neg (by omega)]
theorem zg_len : (repl 25 (repl 40 [AV.int IntKind.i64 0, AV.int IntKind.i64 0, AV.int IntKind.i64 0, AV.bool false, AV.bool false, AV.bool false, AV.bool false, AV.bool false, AV.int IntKind.i64 0, AV.int IntKind.i64 0])).length = 1000 * 10 := by rw [zgrid, Cell.flen]; simp
theorem zg_all {G : List AV} (h : G.length = 1000 * 10) : setR (repl 25 (repl 40 [AV.int IntKind.i64 0, AV.int IntKind.i64 0, AV.int IntKind.i64 0, AV.bool false, AV.bool false, AV.bool false, AV.bool false, AV.bool false, AV.int IntKind.i64 0, AV.int IntKind.i64 0])) 0 G = G := setR_all (by rw [h, zg_len])
theorem wch_ok (x : Int) : okG (wch x) := by
  unfold wch
  split
  · exact ⟨by omega, by omega⟩
  · exact ok32
attribute [local irreducible] wordG sAt
theorem t_Words (tag : Nat) (g : List Cell) (hl : g.length = 1000) (r c : Nat) (hr : r < 25) (hc : c < 40) (s : ByteArray) (hs : s.size < 1000000) :
    callω L T 12 tag [.agg (flat Cell.enc g), .int .i64 r, .int .i64 c, .str s] [none, none, none, none] = some (.agg (flat Cell.enc (wordG g s (r * 40 + c) (min s.size (40 - c)))), [none, none, none, none]) := by
  rw [call_ex (show T 12 = some (.code a12) from rfl) rfl rfl]
  have tb := t_blank (tag + 1)
  have lg := Cell.flen g
  rw [hl] at lg
  have tg : (flat Cell.enc g).take 10000 = flat Cell.enc g := List.take_of_length_le (by omega)
  (have fA := And.intro @lg @tg; have c1 := tb; refine gox ?_; clear fA c1)
  obtain ⟨n, hn⟩ : ∃ n, min s.size (40 - c) = n := ⟨_, rfl⟩
  rw [hn]
  refine Eq.trans (head_eq (heap' := [(4, ⟨(tag, 1), flat Cell.enc (wordG g s (r * 40 + c) 0)⟩), (8, ⟨(tag, 1 + 1), repl 25 (repl 40 [AV.int IntKind.i64 0, AV.int IntKind.i64 0, AV.int IntKind.i64 0, AV.bool false, AV.bool false, AV.bool false, AV.bool false, AV.bool false, AV.int IntKind.i64 0, AV.int IntKind.i64 0])⟩)]) rfl (by rw [wordG_zero]) rfl) ?_
  clear lg tg
  refine headX_upN (fun k nz => ⟨[(1, .int .i64 r), (2, .int .i64 c), (3, .str s), (4, .ref 4 (tag, 1) 0), (8, .ref 8 (tag, 1 + 1) 0), (9, .int .i64 k)], [(4, ⟨(tag, 1), flat Cell.enc (wordG g s (r * 40 + c) k)⟩), (8, ⟨(tag, 1 + 1), repl 25 (repl 40 [AV.int IntKind.i64 0, AV.int IntKind.i64 0, AV.int IntKind.i64 0, AV.bool false, AV.bool false, AV.bool false, AV.bool false, AV.bool false, AV.int IntKind.i64 0, AV.int IntKind.i64 0])⟩)], nz, tag⟩) n _ ?_ ?_ 0 _ (by omega)
  · intro k nz hk
    refine ⟨nz + 1, ?_⟩
    obtain ⟨b, gb, hx⟩ := sAt_get (s := s) (k := k) (by omega)
    have hm := Cell.pute (xs := wordG g s (r * 40 + c) k) (i := r * 40 + c + k) (y := wcell s k) (by rw [wordG_len]; omega)
    rw [wordG_set (by omega), show (r * 40 + c + k) * 10 = r * 400 + (c + k) * 10 by omega] at hm
    unfold wcell at hm
    rw [← hx] at hm
    have l1 := Cell.flen (wordG g s (r * 40 + c) k)
    rw [wordG_len, hl] at l1
    have wc : IntKind.i64.wrap ((c : Int) + (k : Int)) = ((c + k : Nat) : Int) := w_i64 (by omega) (by omega)
    have hks : (k : Int) < (s.size : Int) := by omega
    have hck : IntKind.i64.wrap ((c : Int) + (k : Int)) < 40 := by rw [wc]; omega
    generalize flat Cell.enc (wordG g s (r * 40 + c) (k + 1)) = c2 at *
    generalize flat Cell.enc (wordG g s (r * 40 + c) k) = c1 at *
    have hw : IntKind.i64.wrap (b.toNat : Int) = (b.toNat : Int) := w_i64 (by omega) (by have := b.toNat_lt; omega)
    by_cases h1 : (32 : Int) ≤ (b.toNat : Int)
    · by_cases h2 : (b.toNat : Int) ≤ 126
      · rw [show wch (b.toNat : Int) = (b.toNat : Int) from if_pos ⟨h1, h2⟩] at hm
        simp only [Cell.enc] at hm
        (have fA := And.intro @gb (And.intro @l1 (And.intro @wc (And.intro @hw @Nat.mul_one))); have c1 := tb; refine gox ?_; clear fA c1)
        refine head_eq ?_ (by rw [← hm]; rfl) rfl
        simp [wrap_succ hk (by omega)]
      · rw [show wch (b.toNat : Int) = 32 from if_neg (fun q => h2 q.2)] at hm
        simp only [Cell.enc] at hm
        (have fA := And.intro @gb (And.intro @l1 (And.intro @wc (And.intro @hw @Nat.mul_one))); have c1 := tb; refine gox ?_; clear fA c1)
        refine head_eq ?_ (by rw [← hm]; rfl) rfl
        simp [wrap_succ hk (by omega)]
    · rw [show wch (b.toNat : Int) = 32 from if_neg (fun q => h1 q.1)] at hm
      simp only [Cell.enc] at hm
      (have fA := And.intro @gb (And.intro @l1 (And.intro @wc (And.intro @hw @Nat.mul_one))); have c1 := tb; refine gox ?_; clear fA c1)
      refine head_eq ?_ (by rw [← hm]; rfl) rfl
      simp [wrap_succ hk (by omega)]
  · intro nz
    have l1 := Cell.flen (wordG g s (r * 40 + c) n)
    rw [wordG_len, hl] at l1
    have sG := zg_all l1
    have tg : (flat Cell.enc (wordG g s (r * 40 + c) n)).take 10000 = flat Cell.enc (wordG g s (r * 40 + c) n) := List.take_of_length_le (by omega)
    replace l1 : (flat Cell.enc (wordG g s (r * 40 + c) n)).length = 10000 := l1
    have zl : (repl 25 (repl 40 [AV.int IntKind.i64 0, AV.int IntKind.i64 0, AV.int IntKind.i64 0, AV.bool false, AV.bool false, AV.bool false, AV.bool false, AV.bool false, AV.int IntKind.i64 0, AV.int IntKind.i64 0])).length = 10000 := zg_len
    have hp : (flat Cell.enc (wordG g s (r * 40 + c) n)).all AV.plain = true := Cell.pl _
    generalize flat Cell.enc (wordG g s (r * 40 + c) n) = G at *
    have wc : IntKind.i64.wrap ((c : Int) + (n : Int)) = ((c + n : Nat) : Int) := w_i64 (by omega) (by omega)
    by_cases hs1 : n < s.size
    · have hks : (n : Int) < (s.size : Int) := by omega
      have hck : ¬ IntKind.i64.wrap ((c : Int) + (n : Int)) < 40 := by rw [wc]; omega
      (have fA := And.intro @l1 (And.intro @wc (And.intro @tg (And.intro @sG @zl))); refine gox ?_; clear fA)
      (have fA := And.intro @l1 (And.intro @tg (And.intro @sG (And.intro @zl @hp))); refine finx ?_; clear fA; try with_reducible rfl)
      try rw [sG, tg]
    · have hks : ¬ (n : Int) < (s.size : Int) := by omega
      (have fA := And.intro @l1 (And.intro @wc (And.intro @tg (And.intro @sG @zl))); refine gox ?_; clear fA)
      (have fA := And.intro @l1 (And.intro @tg (And.intro @sG (And.intro @zl @hp))); refine finx ?_; clear fA; try with_reducible rfl)
      try rw [sG, tg]
theorem t_Words_no (tag : Nat) (g : List Cell) (hl : g.length = 1000) (r c : Int) (h : r < 0 ∨ 25 ≤ r ∨ c < 0 ∨ 40 ≤ c) (s : ByteArray) :
    callω L T 12 tag [.agg (flat Cell.enc g), .int .i64 r, .int .i64 c, .str s] [none, none, none, none] = some (.agg (flat Cell.enc g), [none, none, none, none]) := by
  rw [call_ex (show T 12 = some (.code a12) from rfl) rfl rfl]
  have lg := Cell.flen g
  rw [hl] at lg
  have tg : (flat Cell.enc g).take 10000 = flat Cell.enc g := List.take_of_length_le (by omega)
  have sG := zg_all lg
  replace lg : (flat Cell.enc g).length = 10000 := lg
  have zl : (repl 25 (repl 40 [AV.int IntKind.i64 0, AV.int IntKind.i64 0, AV.int IntKind.i64 0, AV.bool false, AV.bool false, AV.bool false, AV.bool false, AV.bool false, AV.int IntKind.i64 0, AV.int IntKind.i64 0])).length = 10000 := zg_len
  have hp : (flat Cell.enc g).all AV.plain = true := Cell.pl g
  generalize flat Cell.enc g = G at *
  by_cases h0 : r < 0
  · (have fA := And.intro @lg (And.intro @tg (And.intro @sG (And.intro @zl @hp))); refine gox ?_; clear fA)
    (have fA := And.intro @lg (And.intro @tg (And.intro @sG (And.intro @zl @hp))); refine finx ?_; clear fA; try with_reducible rfl)
    try rw [sG, tg]
  by_cases h1 : 25 ≤ r
  · (have fA := And.intro @lg (And.intro @tg (And.intro @sG (And.intro @zl @hp))); refine gox ?_; clear fA)
    (have fA := And.intro @lg (And.intro @tg (And.intro @sG (And.intro @zl @hp))); refine finx ?_; clear fA; try with_reducible rfl)
    try rw [sG, tg]
  by_cases h2 : c < 0
  · (have fA := And.intro @lg (And.intro @tg (And.intro @sG (And.intro @zl @hp))); refine gox ?_; clear fA)
    (have fA := And.intro @lg (And.intro @tg (And.intro @sG (And.intro @zl @hp))); refine finx ?_; clear fA; try with_reducible rfl)
    try rw [sG, tg]
  · have h3 : 40 ≤ c := by omega
    (have fA := And.intro @lg (And.intro @tg (And.intro @sG (And.intro @zl @hp))); refine gox ?_; clear fA)
    (have fA := And.intro @lg (And.intro @tg (And.intro @sG (And.intro @zl @hp))); refine finx ?_; clear fA; try with_reducible rfl)
    try rw [sG, tg]

end Go.Proofs.Ytkienchmbfhigaa
