/- RenderWords: words stand where they are laid, as far as the row goes, and leave all else. No condition. -/
import Derived.Test.YtkienchmbfhigaaRows
import Derived.Test.YtkienchmbfhigaaSimWit
import Derived.Test.YtkienchmbfhigaaSimT
import Derived.Test.YtkienchmbfhigaaSimY
import Derived.Test.YtkienchmbfhigaaPwords
import Derived.Test.YtkienchmbfhigaaPrender5
import Derived.Test.YtkienchmbfhigaaPpage4
set_option maxRecDepth 100000
set_option maxHeartbeats 40000000
set_option linter.unusedSimpArgs false
set_option linter.unusedVariables false
namespace Go.Proofs.Ytkienchmbfhigaa.renderWords
open Go Go.Sim
attribute [local irreducible] chk brX getX strX setX takeX normX fillX lendX partsX opsX callK lentK lentR giveX adoptX resX joinX headX loopX seqK blkK regK finX exOps ex eqT
attribute [local simp] setR_int setR_bool setR_zero setR_succ repl_int repl_bool List.getElem?_cons_zero List.getElem?_cons_succ List.getElem?_nil w_i64 w_u64 w_u8 bAnd_u8 bOr_u8 bXor_u8 bAndNot_u8 bShl_u8 wrap_u8_range all_plain_int all_plain_bool all_plain_app pl_bool pl_int pl_str pl_nilp pl_nsl pl_nilI pl_nilF take_map_len AV.cells TI.isAgg

attribute [local simp] Cell.flen Cell.rd Cell.g0 Cell.g1 Cell.g2 Cell.g3 Cell.g4 Cell.g5 Cell.g6 Cell.g7 Cell.g8 Cell.g9 Cell.put Cell.pute Cell.s0 Cell.s1 Cell.s2 Cell.s3 Cell.s4 Cell.s5 Cell.s6 Cell.s7 Cell.s8 Cell.s9 Cell.zero Cell.enc Tr.flen Tr.rd Tr.g0 Tr.g1 Tr.g2 Tr.put Tr.pute Tr.s0 Tr.s1 Tr.s2 Tr.zero Tr.enc Hd.flen Hd.rd Hd.g0 Hd.g1 Hd.g2 Hd.g3 Hd.g4 Hd.g5 Hd.g6 Hd.g7 Hd.g8 Hd.g9 Hd.g10 Hd.g11 Hd.g12 Hd.g13 Hd.g14 Hd.put Hd.pute Hd.s0 Hd.s1 Hd.s2 Hd.s3 Hd.s4 Hd.s5 Hd.s6 Hd.s7 Hd.s8 Hd.s9 Hd.s10 Hd.s11 Hd.s12 Hd.s13 Hd.s14 Hd.zero Hd.enc
theorem hd_of {n : Nat} {cs : List AV} (h : zipShp (Shp L (n + 3)) [(0, 26), (3, 27), (14, 3)] cs) : ∃ x : Hd, cs = x.enc := by
  obtain ⟨a, r, rfl, ha, h1⟩ := zip_strct (show L 26 = some _ from rfl) h
  obtain ⟨x1, a1, rfl, _, ha⟩ := zip_int (show L 3 = some _ from rfl) ha
  obtain ⟨x2, a2, rfl, _, ha⟩ := zip_int (show L 3 = some _ from rfl) ha
  obtain ⟨x3, a3, rfl, _, ha⟩ := zip_int (show L 3 = some _ from rfl) ha
  obtain rfl := zip_nil ha
  obtain ⟨parts, r2, rfl, hl, hp, h2⟩ := zip_arr (show L 27 = some _ from rfl) h1
  obtain ⟨ys, e1, e2⟩ := bools_of_parts (n := n + 1) (show L 4 = some _ from rfl) parts hp
  obtain ⟨o, r3, rfl, _, h3⟩ := zip_int (show L 3 = some _ from rfl) h2
  obtain rfl := zip_nil h3
  rw [hl] at e2
  rw [e1]
  match ys, e2 with
  | [c0, c1, c2, c3, c4, c5, c6, c7, c8, c9, c10], _ => exact ⟨⟨x1, x2, x3, c0, c1, c2, c3, c4, c5, c6, c7, c8, c9, c10, o⟩, rfl⟩
theorem ints_flat {i : IntKind} {m : Nat} : ∀ parts : List (List AV), (∀ p ∈ parts, ∃ xs : List Int, p = xs.map (.int i) ∧ xs.length = m) → ∃ ys : List Int, parts.flatten = ys.map (.int i) ∧ ys.length = parts.length * m
  | [], _ => ⟨[], rfl, by simp⟩
  | p :: ps, h => by
    obtain ⟨xs, rfl, e⟩ := h p (by simp)
    obtain ⟨ys, e1, e2⟩ := ints_flat ps fun q hq => h q (by simp [hq])
    exact ⟨xs ++ ys, by rw [List.flatten_cons, e1, List.map_append], by rw [List.length_append, e, e2, List.length_cons, Nat.add_mul]; omega⟩
theorem pg_of {n : Nat} {cs : List AV} (h : zipShp (Shp L (n + 4)) [(0, 29), (15, 30), (1015, 31), (1040, 32), (1041, 33), (1059, 4), (1060, 3)] cs) :
    ∃ (p : Pg), p.Ok ∧ p.extra.length ≤ maxLen ∧ cs = p.enc (.isl 3 p.extra.length (flat Tr.enc p.extra)) := by
  obtain ⟨a, r, rfl, ha, h1⟩ := zip_strct (show L 29 = some _ from rfl) h
  obtain ⟨hd, rfl⟩ := hd_of (n := n) ha
  obtain ⟨rws, r2, rfl, hl2, hp2, h2⟩ := zip_arr (show L 30 = some _ from rfl) h1
  obtain ⟨rs, e1, e2⟩ := ints_flat (i := .u8) (m := 40) rws fun p hp => by
    obtain ⟨q, rfl, hq, hs⟩ := shp_arr (show L 22 = some _ from rfl) (hp2 p hp)
    obtain ⟨xs, x1, x2, _⟩ := ints_of_parts (n := n + 1) (show L 5 = some _ from rfl) q hs
    exact ⟨xs, x1, by omega⟩
  obtain ⟨ths, r3, rfl, hl3, hp3, h3⟩ := zip_arr (show L 31 = some _ from rfl) h2
  obtain ⟨th, e3, e4⟩ := bools_of_parts (n := n + 2) (show L 4 = some _ from rfl) ths hp3
  obtain ⟨exs, r4, rfl, hl4, hp4, h4⟩ := zip_slice (show L 32 = some _ from rfl) (show L 70 = some _ from rfl) h3
  obtain ⟨ex, e5, e6, _⟩ := Tr.parts (n := n + 1) (show L 70 = some _ from rfl) rfl exs hp4
  obtain ⟨lks, r5, rfl, hl5, hp5, h5⟩ := zip_arr (show L 33 = some _ from rfl) h4
  obtain ⟨ls, e7, e8⟩ := ints_flat (i := .i64) (m := 3) lks fun p hp => by
    have q := shp_strct (show L 26 = some _ from rfl) (hp5 p hp)
    obtain ⟨y1, b1, rfl, _, q⟩ := zip_int (show L 3 = some _ from rfl) q
    obtain ⟨y2, b2, rfl, _, q⟩ := zip_int (show L 3 = some _ from rfl) q
    obtain ⟨y3, b3, rfl, _, q⟩ := zip_int (show L 3 = some _ from rfl) q
    obtain rfl := zip_nil q
    exact ⟨[y1, y2, y3], rfl, rfl⟩
  obtain ⟨lk, r6, rfl, h6⟩ := zip_bool (show L 4 = some _ from rfl) h5
  obtain ⟨df, r7, rfl, _, h7⟩ := zip_int (show L 3 = some _ from rfl) h6
  obtain rfl := zip_nil h7
  refine ⟨⟨hd, rs, th, ex, ls, lk, df⟩, ⟨by simp only; omega, by simp only; omega, by simp only; omega⟩, by simp only; omega, ?_⟩
  simp only [Pg.enc]
  rw [e1, e3, e5, e6, e7]
theorem page_rd (P : Pg) (rev mix : Bool) (i : Nat) (hi : i < 1000) : ((flat Cell.enc ((List.range 1000).map (pageC P rev mix))).drop (i * 10)).take 10 = (pageC P rev mix i).enc := by
  have h : i < ((List.range 1000).map (pageC P rev mix)).length := by simpa using hi
  rw [Cell.rd h, show ((List.range 1000).map (pageC P rev mix))[i] = pageC P rev mix i by simp]; rfl
theorem str_at (xs : List Int) {k : Nat} (hk9 : k < xs.length) : (strOfNums xs)[k]? = some (UInt8.ofNat (xs.getD k 0).toNat) := by
  have hs : k < (strOfNums xs).size := by rw [strOfNums_size]; exact hk9
  rw [getElem?_pos _ k hs]
  congr 1
  show (strOfNums xs).data[k] = _
  have e : (strOfNums xs).data[k]? = some (UInt8.ofNat (xs.getD k 0).toNat) := by
    rw [← Array.getElem?_toList, strOfNums_data, List.getElem?_map, List.getElem?_eq_getElem hk9, List.getD_eq_getElem?_getD, List.getElem?_eq_getElem hk9]; rfl
  rw [Array.getElem?_eq_getElem (by exact hs)] at e
  exact Option.some.inj e
theorem rowS_len (l : List Cell) (hl9 : l.length = 1000) {r : Nat} (hr9 : r < 25) : (rowS l r).length = 40 := by
  unfold rowS
  rw [List.length_map, List.length_take, List.length_drop, hl9]
  omega
theorem rowS_get (l : List Cell) (hl9 : l.length = 1000) {r k : Nat} (hr9 : r < 25) (hk9 : k < 40) : (rowS l r).getD k 0 = signB (l.getD (r * 40 + k) Cell.none).glyph := by
  unfold rowS
  rw [List.getD_eq_getElem?_getD, List.getElem?_map, List.getElem?_take, if_pos hk9, List.getElem?_drop, List.getD_eq_getElem?_getD, List.getElem?_eq_getElem (by omega)]
  rfl
theorem sign_wch (x : Int) : signB (wch x) = wch x := by
  have hb : 32 ≤ wch x ∧ wch x ≤ 126 := by
    unfold wch
    split
    · assumption
    · omega
  have hm : mOf (wch x) = (0, false, false) := if_neg (by omega)
  unfold signB
  rw [hm, if_neg (by decide), if_pos hb]
theorem words_at (g : List Cell) (s : ByteArray) (R C n : Nat) (hl2 : (wordG g s (R * 40 + C) n).length = 1000) (a6 : R < 25) {c : Nat} (hc : c < 40) (h3 : R * 40 + C ≤ R * 40 + c) (h4 : R * 40 + c < R * 40 + C + n) :
    ∃ b : UInt8, (strOfNums (rowS (wordG g s (R * 40 + C) n) R))[c]? = some b ∧ (b.toNat : Int) = wch (sAt s (c - C)) := by
  refine ⟨_, str_at _ (by rw [rowS_len _ hl2 a6]; exact hc), ?_⟩
  rw [rowS_get _ hl2 a6 hc, List.getD_eq_getElem?_getD, List.getElem?_eq_getElem (by rw [hl2]; omega)]
  show ((UInt8.ofNat (signB ((wordG g s (R * 40 + C) n)[R * 40 + c]).glyph).toNat).toNat : Int) = _
  rw [wordG_get, if_pos ⟨h3, h4⟩, show R * 40 + c - (R * 40 + C) = c - C by omega]
  show ((UInt8.ofNat (signB (wch (sAt s (c - C)))).toNat).toNat : Int) = _
  rw [sign_wch]
  have hb : 32 ≤ wch (sAt s (c - C)) ∧ wch (sAt s (c - C)) ≤ 126 := by
    unfold wch
    split
    · assumption
    · omega
  have : (UInt8.ofNat (wch (sAt s (c - C))).toNat).toNat = (wch (sAt s (c - C))).toNat := by
    rw [UInt8.toNat_ofNat']
    omega
  rw [this]
  omega
theorem words_size (g : List Cell) (s : ByteArray) (R C n : Nat) (hl2 : (wordG g s (R * 40 + C) n).length = 1000) {r : Nat} (hr : r < 25) : (strOfNums (rowS (wordG g s (R * 40 + C) n) r)).size = 40 := by
  rw [strOfNums_size, rowS_len _ hl2 hr]
theorem cell_of_rd {H l : List AV} {o : Nat} (hr9 : (H.drop o).take 10 = l) {j : Nat} (hj9 : j < 10) : H[o + j]? = l[j]? := by
  rw [← hr9, List.getElem?_take, if_pos hj9, List.getElem?_drop]
theorem main (row col : Int) (s : ByteArray) (p : Pg) (hp : p.Ok) (hl : p.extra.length ≤ maxLen) : callω L T 5 0 [.int .i64 row, .int .i64 col, .str s, .agg (p.enc (.isl 3 p.extra.length (flat Tr.enc p.extra)))] [none, none, none, none] = some (.bool true, [none, none, none, none]) := by
  rw [call_ex (show T 5 = some (.code a5) from rfl) rfl rfl]
  by_cases h1 : 60 < s.size
  · (have c1 := fun x1 => t_law17_first x1; refine gox ?_; clear c1)
    (refine finx ?_; try with_reducible rfl)
    try rfl
  by_cases h2 : 100 < p.extra.length
  · (have fA := @pgs; have c1 := fun x1 => t_law17_first x1; refine gox ?_; clear fA c1)
    (refine finx ?_; try with_reducible rfl)
    try rfl
  have t1 := t_Page (0 + 1) p hp (x := .isl 3 p.extra.length (flat Tr.enc p.extra)) (Or.inl rfl) (by omega) false false
  have gok : ∀ c ∈ (List.range 1000).map (pageC p false false), okG c.glyph := fun c hc => by obtain ⟨i, _, rfl⟩ := List.mem_map.1 hc; exact pageC_ok p _ _ i
  have gl : ((List.range 1000).map (pageC p false false)).length = 1000 := by simp
  have rd1 := fun i hi => page_rd p false false i hi
  have gp : ∀ i, i < 1000 → ((List.range 1000).map (pageC p false false)).getD i Cell.none = pageC p false false i := fun i hi => by
    rw [List.getD_eq_getElem?_getD, List.getElem?_map, List.getElem?_range hi]; rfl
  generalize (List.range 1000).map (pageC p false false) = g at *
  have n1 := Cell.flen g
  rw [gl] at n1
  have sG := zg_all n1
  have tk1 : (flat Cell.enc g).take 10000 = flat Cell.enc g := List.take_of_length_le (by omega)
  by_cases hg : 0 ≤ row ∧ row < 25 ∧ 0 ≤ col ∧ col < 40
  · obtain ⟨R, rfl⟩ : ∃ R : Nat, row = R := ⟨row.toNat, by omega⟩
    obtain ⟨C, rfl⟩ : ∃ C : Nat, col = C := ⟨col.toNat, by omega⟩
    obtain ⟨a1, a2, a3, a4⟩ := hg
    have a5 : C < 40 := by omega
    have a6 : R < 25 := by omega
    obtain ⟨n, hn⟩ : ∃ n, min s.size (40 - C) = n := ⟨_, rfl⟩
    have t2 := t_Words (0 + 1) g gl R C a6 a5 s (by omega)
    rw [hn] at t2
    have hl2 : (wordG g s (R * 40 + C) n).length = 1000 := by rw [wordG_len, gl]
    have hok : ∀ c ∈ wordG g s (R * 40 + C) n, okG c.glyph := fun c hc => by
      unfold wordG at hc
      obtain ⟨i, _, rfl⟩ := List.mem_map.1 hc
      split
      · exact wch_ok _
      · rw [List.getD_eq_getElem?_getD]
        by_cases hi : i < g.length
        · rw [List.getElem?_eq_getElem hi]; exact gok _ (List.getElem_mem hi)
        · rw [List.getElem?_eq_none (by omega)]; exact ⟨by decide, by decide⟩
    have t3 := t_Text (0 + 1) (wordG g s (R * 40 + C) n) hl2 hok
    have n2 := Cell.flen (wordG g s (R * 40 + C) n)
    rw [hl2] at n2
    have sH := zg_all n2
    have tk2 : (flat Cell.enc (wordG g s (R * 40 + C) n)).take 10000 = flat Cell.enc (wordG g s (R * 40 + C) n) := List.take_of_length_le (by omega)
    have lt := texts_len (wordG g s (R * 40 + C) n) 25
    have hv : ∀ i, i < 1000 → ((flat Cell.enc (wordG g s (R * 40 + C) n)).drop (i * 10)).take 10 = (if R * 40 + C ≤ i ∧ i < R * 40 + C + n then wcell s (i - (R * 40 + C)) else pageC p false false i).enc := fun i hi => by
      rw [Cell.rd (by rw [hl2]; exact hi), wordG_get, gp i hi]
      rfl
    have hx : ∀ r, r < 25 → (texts (wordG g s (R * 40 + C) n) 25)[r]? = some (.str (strOfNums (rowS (wordG g s (R * 40 + C) n) r))) := fun r hr => by
      unfold texts
      rw [List.getElem?_map, List.getElem?_range hr]; rfl
    have hz := fun c hc h3 h4 => words_at g s R C n hl2 a6 (c := c) hc h3 h4
    have hsz := fun r hr => words_size g s R C n hl2 (r := r) hr
    generalize rowS (wordG g s (R * 40 + C) n) = rs at *
    generalize texts (wordG g s (R * 40 + C) n) 25 = tx at *
    generalize flat Cell.enc (wordG g s (R * 40 + C) n) = H1 at *
    generalize flat Cell.enc g = G1 at *
    (have fA := And.intro @pgs (And.intro @sG (And.intro @tk1 (And.intro @n1 (And.intro @sH (And.intro @tk2 (And.intro @n2 @lt)))))); have c1 := fun x1 => t_law17_first x1; have c2 := t1; have c3 := t2; have c4 := t3; refine gox ?_; clear fA c1 c2 c3 c4)
    rw [decide_eq_true a4]
    clear t1 t2 t3 sG tk1 gok sH tk2 hok
    refine headX_upN (fun r nz => ⟨[(0, .int .i64 R), (1, .int .i64 C), (2, .str s), (9, .bool true), (10, .ref 10 (0, 1 + 1) 0), (11, .ref 11 (0, 1 + 1 + 1) 0), (12, .bool true), (13, .fsl 1 25 tx), (14, .int .i64 r)], [(10, ⟨(0, 1 + 1), G1⟩), (11, ⟨(0, 1 + 1 + 1), H1⟩)], nz, 0⟩) 25 _ ?_ ?_ 0 _ (by omega)
    · intro r nz hr
      refine ⟨nz, ?_⟩
      (refine gox ?_)
      refine headX_up (fun c => ⟨[(0, .int .i64 R), (1, .int .i64 C), (2, .str s), (9, .bool true), (10, .ref 10 (0, 1 + 1) 0), (11, .ref 11 (0, 1 + 1 + 1) 0), (12, .bool true), (13, .fsl 1 25 tx), (14, .int .i64 r), (15, .int .i64 c)], [(10, ⟨(0, 1 + 1), G1⟩), (11, ⟨(0, 1 + 1 + 1), H1⟩)], nz, 0⟩) 40 _ ?_ ?_ 0 (by omega)
      · intro c hc
        have rdg := rd1 (r * 40 + c) (by omega)
        have rdh := hv (r * 40 + c) (by omega)
        rw [show (r * 40 + c) * 10 = r * 400 + c * 10 by omega] at rdg rdh
        have hxr := hx r hr
        have hsr := hsz r hr
        clear rd1 hv hx hsz
        have wcc : IntKind.i64.wrap ((c : Int) - (C : Int)) = (c : Int) - (C : Int) := w_i64 (by omega) (by omega)
        by_cases hin : r = R ∧ C ≤ c ∧ c - C < s.size
        · obtain ⟨rfl, b2, b3⟩ := hin
          rw [if_pos (by omega), show r * 40 + c - (r * 40 + C) = c - C by omega] at rdh
          obtain ⟨b', gb', hb'⟩ := hz c hc (by omega) (by omega)
          clear hz
          obtain ⟨b, gb, hb⟩ := sAt_get (s := s) b3
          unfold wcell at rdh
          rw [← hb] at rdh hb'
          simp only [Cell.enc] at rdh
          generalize strOfNums (rs r) = sr at *
          have tn : (IntKind.i64.wrap ((c : Int) - (C : Int))).toNat = c - C := by rw [wcc]; omega
          have hcC : (C : Int) ≤ (c : Int) := by omega
          have h00 : 0 ≤ IntKind.i64.wrap ((c : Int) - (C : Int)) := by rw [wcc]; omega
          have hlt : IntKind.i64.wrap ((c : Int) - (C : Int)) < (s.size : Int) := by rw [wcc]; omega
          have hrr : (r : Int) = (r : Int) := rfl
          have hw : IntKind.i64.wrap (b.toNat : Int) = (b.toNat : Int) := w_i64 (by omega) (by have := b.toNat_lt; omega)
          have hw2 : IntKind.i64.wrap (32 : Int) = 32 := by decide
          have hbl := b.toNat_lt
          by_cases q1 : (b.toNat : Int) < 32
          · rw [show wch (b.toNat : Int) = 32 from if_neg (by omega)] at rdh hb'
            have g0 := cell_of_rd rdh (j := 0) (by omega)
            have g1 := cell_of_rd rdh (j := 1) (by omega)
            have g2 := cell_of_rd rdh (j := 2) (by omega)
            simp only [Nat.add_zero, List.getElem?_cons_zero, List.getElem?_cons_succ] at g0 g1 g2
            (have fA := And.intro @g0 (And.intro @g1 (And.intro @g2 (And.intro @n2 (And.intro @gb (And.intro @gb' (And.intro @hxr (And.intro @hsr (And.intro @tn @lt)))))))); refine gox ?_; clear fA)
            refine head_eq ?_ rfl rfl
            simp [wrap_succ hc (by omega)]
          · by_cases q2 : 126 < (b.toNat : Int)
            · rw [show wch (b.toNat : Int) = 32 from if_neg (by omega)] at rdh hb'
              have g0 := cell_of_rd rdh (j := 0) (by omega)
              have g1 := cell_of_rd rdh (j := 1) (by omega)
              have g2 := cell_of_rd rdh (j := 2) (by omega)
              simp only [Nat.add_zero, List.getElem?_cons_zero, List.getElem?_cons_succ] at g0 g1 g2
              (have fA := And.intro @g0 (And.intro @g1 (And.intro @g2 (And.intro @n2 (And.intro @gb (And.intro @gb' (And.intro @hxr (And.intro @hsr (And.intro @tn @lt)))))))); refine gox ?_; clear fA)
              refine head_eq ?_ rfl rfl
              simp [wrap_succ hc (by omega)]
            · rw [show wch (b.toNat : Int) = (b.toNat : Int) from if_pos (by omega)] at rdh hb'
              have g0 := cell_of_rd rdh (j := 0) (by omega)
              have g1 := cell_of_rd rdh (j := 1) (by omega)
              have g2 := cell_of_rd rdh (j := 2) (by omega)
              simp only [Nat.add_zero, List.getElem?_cons_zero, List.getElem?_cons_succ] at g0 g1 g2
              (have fA := And.intro @g0 (And.intro @g1 (And.intro @g2 (And.intro @n2 (And.intro @gb (And.intro @gb' (And.intro @hxr (And.intro @hsr (And.intro @tn @lt)))))))); refine gox ?_; clear fA)
              refine head_eq ?_ rfl rfl
              simp [wrap_succ hc (by omega)]
        · rw [if_neg (by omega)] at rdh
          clear hz
          have ts := t_SameCell_self (0 + 1) (pageC p false false (r * 40 + c))
          generalize (pageC p false false (r * 40 + c)).enc = ce at *
          by_cases b1 : (r : Int) = (R : Int)
          · by_cases b2 : (C : Int) ≤ (c : Int)
            · have b3 : ¬ IntKind.i64.wrap ((c : Int) - (C : Int)) < (s.size : Int) := by rw [wcc]; omega
              (have fA := And.intro @rdg (And.intro @rdh (And.intro @n1 @n2)); have c1 := ts; refine gox ?_; clear fA c1)
              refine head_eq ?_ rfl rfl
              simp [wrap_succ hc (by omega)]
            · (have fA := And.intro @rdg (And.intro @rdh (And.intro @n1 @n2)); have c1 := ts; refine gox ?_; clear fA c1)
              refine head_eq ?_ rfl rfl
              simp [wrap_succ hc (by omega)]
          · (have fA := And.intro @rdg (And.intro @rdh (And.intro @n1 @n2)); have c1 := ts; refine gox ?_; clear fA c1)
            refine head_eq ?_ rfl rfl
            simp [wrap_succ hc (by omega)]
      · (refine gox ?_)
        refine head_eq ?_ rfl rfl
        simp [wrap_succ hr (by omega)]
    · intro nz
      (refine gox ?_)
      (refine finx ?_; try with_reducible rfl)
      try rfl
  · have t2 := t_Words_no (0 + 1) g gl row col (by omega) s
    have t3 := t_Text (0 + 1) g gl gok
    have lt := texts_len g 25
    generalize texts g 25 = tx at *
    generalize flat Cell.enc g = G1 at *
    refine goal_join (Q := ?kQ) (fun key => ?kk) ?kb
    case kk =>
      by_cases a1 : 0 ≤ row
      · by_cases a2 : row < 25
        · by_cases a3 : 0 ≤ col
          · have a4 : ¬ col < 40 := fun a4 => hg ⟨a1, a2, a3, a4⟩
            (have fA := And.intro @pgs (And.intro @sG (And.intro @tk1 (And.intro @n1 @lt))); have c1 := fun x1 => t_law17_first x1; have c2 := t1; have c3 := t2; have c4 := t3; refine gox ?_; clear fA c1 c2 c3 c4)
            rw [decide_eq_false a4]
            exact key.out
          · (have fA := And.intro @pgs (And.intro @sG (And.intro @tk1 (And.intro @n1 @lt))); have c1 := fun x1 => t_law17_first x1; have c2 := t1; have c3 := t2; have c4 := t3; refine gox ?_; clear fA c1 c2 c3 c4)
            exact key.out
        · (have fA := And.intro @pgs (And.intro @sG (And.intro @tk1 (And.intro @n1 @lt))); have c1 := fun x1 => t_law17_first x1; have c2 := t1; have c3 := t2; have c4 := t3; refine gox ?_; clear fA c1 c2 c3 c4)
          exact key.out
      · (have fA := And.intro @pgs (And.intro @sG (And.intro @tk1 (And.intro @n1 @lt))); have c1 := fun x1 => t_law17_first x1; have c2 := t1; have c3 := t2; have c4 := t3; refine gox ?_; clear fA c1 c2 c3 c4)
        exact key.out
    case kb =>
      clear t1 t2 t3 sG tk1 gok
      refine headX_upN (fun r nz => ⟨[(0, .int .i64 row), (1, .int .i64 col), (2, .str s), (9, .bool true), (10, .ref 10 (0, 1 + 1) 0), (11, .ref 11 (0, 1 + 1 + 1) 0), (12, .bool false), (13, .fsl 1 25 tx), (14, .int .i64 r)], [(10, ⟨(0, 1 + 1), G1⟩), (11, ⟨(0, 1 + 1 + 1), G1⟩)], nz, 0⟩) 25 _ ?_ ?_ 0 _ (by omega)
      · intro r nz hr
        refine ⟨nz, ?_⟩
        (refine gox ?_)
        refine headX_up (fun c => ⟨[(0, .int .i64 row), (1, .int .i64 col), (2, .str s), (9, .bool true), (10, .ref 10 (0, 1 + 1) 0), (11, .ref 11 (0, 1 + 1 + 1) 0), (12, .bool false), (13, .fsl 1 25 tx), (14, .int .i64 r), (15, .int .i64 c)], [(10, ⟨(0, 1 + 1), G1⟩), (11, ⟨(0, 1 + 1 + 1), G1⟩)], nz, 0⟩) 40 _ ?_ ?_ 0 (by omega)
        · intro c hc
          have rd := rd1 (r * 40 + c) (by omega)
          rw [show (r * 40 + c) * 10 = r * 400 + c * 10 by omega] at rd
          have ts := t_SameCell_self (0 + 1) (pageC p false false (r * 40 + c))
          clear rd1
          generalize (pageC p false false (r * 40 + c)).enc = ce at *
          (have fA := And.intro @rd @n1; have c1 := ts; refine gox ?_; clear fA c1)
          refine head_eq ?_ rfl rfl
          simp [wrap_succ hc (by omega)]
        · (refine gox ?_)
          refine head_eq ?_ rfl rfl
          simp [wrap_succ hr (by omega)]
      · intro nz
        (refine gox ?_)
        (refine finx ?_; try with_reducible rfl)
        try rfl
theorem law (cs : List AV) (h : ShpAll L 5 Try.f5.params.toList cs) : ∃ lent, callω L T 5 0 cs (List.replicate Try.f5.params.toList.length none) = some (.bool true, lent) := by
  rw [Try.params5] at h
  obtain ⟨row, _, rfl, _, h1⟩ := shpAll_int rfl h
  obtain ⟨col, _, rfl, _, h2⟩ := shpAll_int rfl h1
  obtain ⟨s, _, rfl, _, h3⟩ := shpAll_str rfl h2
  obtain ⟨a, _, rfl, hz, h4⟩ := shpAll_strct rfl h3
  obtain rfl := shpAll_nil h4
  obtain ⟨p, hp, hl, rfl⟩ := pg_of (n := 0) hz
  exact ⟨_, main row col s p hp hl⟩

open Go.ChangeShapes Go.WideShapes Go.ChangeAt Go.RowKit
theorem lifted (os : Os) (started : os.Started) (H : Type) (enc : TypeId × Value → H) :
    ReturnsInHanded {} Try.checked os 5 .any (Rows.renderWordsSpec.pre6 enc Try.prog Try.f5 Rows.renderWordsRow.domain false) (Rows.renderWordsSpec.post enc Try.prog Try.f5 false true false false) := by
  refine law_lift (C := Try.checked) (n := 5) own started (by kernel_rfl) Try.func5 L_ok T_ok (show T 5 = some (.code a5) from rfl) laid (by kernel_rfl) rfl Try.underlying4 rfl ?_ law
    (witFast (enc := enc) (C := Try.checked) ⟨#[], #[.int .i64 0, .int .i64 0, .string ByteArray.empty, .agg (List.replicate 3 (Value.int .i64 0) ++ List.replicate 11 (Value.bool false) ++ List.replicate 1 (Value.int .i64 0) ++ List.replicate 1000 (Value.int .u8 0) ++ List.replicate 25 (Value.bool false) ++ List.replicate 1 (Value.slice none 0 0) ++ List.replicate 18 (Value.int .i64 0) ++ List.replicate 1 (Value.bool false) ++ List.replicate 1 (Value.int .i64 0)).toArray], []⟩ 8 (by kernel_rfl) (by kernel_rfl) (by kernel_rfl) (by kernel_rfl) (by kernel_rfl))
  intro H ds hl
  rw [Try.params5] at hl
  match ds, hl with
  | [d1, d2, d3, d4], _ => rfl

theorem over : Rows.renderWordsRow.holds Try.pinned (OpenSpec.ofChange Rows.renderWordsSpec) :=
  OpenClaim.holds_of_wide 5 Try.f5 rfl rfl rfl rfl rfl rfl rfl ⟨rfl, rfl, rfl, rfl, rfl⟩ rfl rfl rfl rfl rfl (by kernel_rfl) Try.func5 (by kernel_rfl)
    (of_decide_eq_true (by kernel_rfl)) (by unfold Func.isWrapper; first | (rw [if_pos (by decide +kernel)]; kernel_rfl) | (rw [if_neg (by decide +kernel)]; exact ⟨rfl, rfl⟩))
    (fun os started H enc _ => lifted os started H enc)

theorem proved : Rows.RenderWordsSaid :=
  over
#print axioms proved
end Go.Proofs.Ytkienchmbfhigaa.renderWords
