/- Functions of the seat, worked off from their code: chunk latin. Written by program (tools/mkp.py) from wip/fn. -/
import Derived.Test.YtkienchmbfhigaaSimT
import Derived.Test.YtkienchmbfhigaaSimY

set_option maxRecDepth 100000
set_option maxHeartbeats 40000000
set_option linter.unusedSimpArgs false
set_option linter.unusedVariables false
namespace Go.Proofs.Ytkienchmbfhigaa
open Go Go.Sim
attribute [local irreducible] chk brX getX strX setX takeX normX fillX lendX partsX opsX callK lentK lentR giveX adoptX resX joinX headX loopX seqK blkK regK finX exOps ex eqT
attribute [local simp] setR_int setR_bool setR_zero setR_succ repl_int repl_bool List.getElem?_cons_zero List.getElem?_cons_succ List.getElem?_nil w_i64 w_u64 w_u8 bAnd_u8 bOr_u8 bXor_u8 bAndNot_u8 bShl_u8 wrap_u8_range all_plain_int all_plain_bool all_plain_app pl_bool pl_int pl_str pl_nilp pl_nsl pl_nilI pl_nilF take_map_len AV.cells TI.isAgg
def placesL : List Int := [35, 36, 64, 91, 92, 93, 94, 95, 96, 123, 124, 125, 126]
def tabL : List (List Int) := [[163, 36, 64, 8592, 189, 8594, 8593, 35, 8213, 188, 8214, 190, 247], [35, 36, 167, 196, 214, 220, 94, 95, 176, 228, 246, 252, 223], [35, 164, 201, 196, 214, 197, 220, 95, 233, 228, 246, 229, 252], [163, 36, 233, 176, 231, 8594, 8593, 35, 249, 224, 242, 232, 236], [233, 239, 224, 235, 234, 249, 238, 35, 232, 226, 244, 251, 231], [231, 36, 161, 225, 233, 237, 243, 250, 191, 252, 241, 232, 224], [35, 367, 269, 357, 382, 253, 237, 345, 233, 225, 283, 250, 353], [35, 324, 261, 437, 346, 321, 263, 243, 281, 380, 347, 322, 378], [8356, 287, 304, 350, 214, 199, 220, 286, 305, 351, 246, 231, 252], [35, 203, 268, 262, 381, 272, 352, 235, 269, 263, 382, 273, 353], [35, 164, 354, 194, 350, 258, 206, 305, 355, 226, 351, 259, 238], [35, 245, 352, 196, 214, 381, 220, 213, 353, 228, 246, 382, 252], [35, 36, 352, 279, 281, 381, 269, 363, 353, 261, 371, 382, 303]]
def tabI (o k : Nat) : Int := (tabL.getD o []).getD k 0
def regL : List Int := [0, 1, 2, 3, 4, 5, 6, 0, 7, 1, 2, 3, 4, 0, 6, 0, 0, 1, 2, 3, 4, 5, 8, 0, 0, 0, 0, 0, 0, 9, 0, 10, 0, 1, 11, 12, 0, 0, 6, 0, 0, 0, 0, 0, 0, 0, 0, 0, 0, 0, 0, 0, 0, 0, 8, 0]
/-- A country: its name, what stands at the places. -/
def ctEnc (c : ByteArray × List Int) : List AV := .str c.1 :: ((List.range 13).map fun k => .int .i64 (c.2.getD k 0))
theorem ctLen (c : ByteArray × List Int) : (ctEnc c).length = 14 := by simp [ctEnc]
def mkCts (s : List ByteArray) : List (ByteArray × List Int) := s.zip tabL
theorem ct_get {s : List ByteArray} (hs : s.length = 13) {o k : Nat} (ho : o < 13) (hk : k < 13) : (flat ctEnc (mkCts s))[o * 14 + (1 + k)]? = some (.int .i64 (tabI o k)) := by
  have hl : o < (mkCts s).length := by simp [mkCts, hs, tabL]; exact ho
  rw [flt_get ctLen hl (by omega)]
  have e : (mkCts s)[o].2 = tabL.getD o [] := by
    simp only [mkCts, List.getElem_zip]
    rw [List.getD_eq_getElem?_getD, List.getElem?_eq_getElem (by simp [tabL]; exact ho)]
    rfl
  simp only [ctEnc, e]
  rw [show 1 + k = k + 1 from by omega, List.getElem?_cons_succ, List.getElem?_map, List.getElem?_range hk]
  rfl
/-- What stands at a byte in no country. -/
def lplainI (c : Int) : Int := let d := bAnd .u8 c 127; if d < 32 then 32 else if d = 127 then 9632 else d
def charI (o c : Int) : Int :=
  let k := idxOf placesL (bAnd .u8 c 127)
  if k < 0 then lplainI c else tabI (if o < 0 ∨ 13 ≤ o then 0 else o.toNat) k.toNat
def optI (r c : Int) : Int := if r < 0 ∨ 7 ≤ r ∨ c < 0 ∨ 8 ≤ c then 0 else regL.getD (r.toNat * 8 + c.toNat) 0
theorem idx_range : ∀ (xs : List Int) (c : Int), -1 ≤ idxOf xs c ∧ idxOf xs c < xs.length
  | [], c => by simp [idxOf]
  | x :: l, c => by
    have := idx_range l c
    simp only [idxOf, List.length_cons]
    split
    · omega
    · split <;> omega
theorem a127 (c : Int) : 0 ≤ bAnd .u8 c 127 ∧ bAnd .u8 c 127 < 256 := wrap_u8_range _
theorem t_Places (tag : Nat) : callω L T 68 tag [] [] = some (.fsl 1 13 (placesL.map (.int .u8)), []) := by
  rw [call_ex (show T 68 = some (.code a68) from rfl) rfl rfl]
  (refine gox ?_)
  (refine finx ?_; try with_reducible rfl)
  rfl
theorem t_IndexByte (tag : Nat) (xs : List Int) (c : Int) : callω L T 67 tag [.isl 1 xs.length (xs.map (.int .u8)), .int .u8 c] [none, none] = some (.int .i64 (idxOf xs c), [none, none]) := by
  rw [call_ex (show T 67 = some (.code a67) from rfl) rfl rfl]
  have ti := (callω_law (L := L) (T := T) (show T 71 = some (.law idxLaw) from rfl) (tag := tag + 1)).trans (idxLaw_eq (tag + 1) xs c)
  (have c1 := ti; refine gox ?_; clear c1)
  (refine finx ?_; try with_reducible rfl)
def ctNames : List ByteArray := [⟨#[69, 110, 103, 108, 105, 115, 104]⟩, ⟨#[71, 101, 114, 109, 97, 110]⟩, ⟨#[83, 119, 101, 100, 105, 115, 104]⟩, ⟨#[73, 116, 97, 108, 105, 97, 110]⟩, ⟨#[70, 114, 101, 110, 99, 104]⟩, ⟨#[80, 111, 114, 116, 117, 103, 117, 101, 115, 101]⟩, ⟨#[67, 122, 101, 99, 104]⟩, ⟨#[80, 111, 108, 105, 115, 104]⟩, ⟨#[84, 117, 114, 107, 105, 115, 104]⟩, ⟨#[83, 101, 114, 98, 105, 97, 110]⟩, ⟨#[82, 117, 109, 97, 110, 105, 97, 110]⟩, ⟨#[69, 115, 116, 111, 110, 105, 97, 110]⟩, ⟨#[76, 101, 116, 116, 105, 115, 104]⟩]
def ctCells : List AV := flat ctEnc (mkCts ctNames)
theorem ctCells_len : ctCells.length = 182 := by unfold ctCells; rw [flt_len ctLen]; rfl
theorem ctCells_get {o k : Nat} (ho : o < 13) (hk : k < 13) : ctCells[o * 14 + (1 + k)]? = some (.int .i64 (tabI o k)) := ct_get rfl ho hk
theorem t_all (tag : Nat) : callω L T 70 tag [] [] = some (.fsl 14 13 ctCells, []) := by
  rw [call_ex (show T 70 = some (.code a70) from rfl) rfl rfl]
  (refine gox ?_)
  (refine finx ?_; try with_reducible rfl)
  rfl
theorem t_Options (tag : Nat) : callω L T 69 tag [] [] = some (.int .i64 13, []) := by
  rw [call_ex (show T 69 = some (.code a69) from rfl) rfl rfl]
  (have c1 := fun x1 => t_all x1; refine gox ?_; clear c1)
  (refine finx ?_; try with_reducible rfl)
  rfl
theorem t_Plain (tag : Nat) (c : Int) : callω L T 56 tag [.int .u8 c] [none] = some (.int .i64 (lplainI c), [none]) := by
  rw [call_ex (show T 56 = some (.code a56) from rfl) rfl rfl]
  obtain ⟨h0, h1⟩ := a127 c
  have e : lplainI c = if bAnd .u8 c 127 < 32 then 32 else if bAnd .u8 c 127 = 127 then 9632 else bAnd .u8 c 127 := rfl
  rw [e]
  have w : IntKind.i64.wrap (bAnd .u8 c 127) = bAnd .u8 c 127 := w_i64 (by omega) (by omega)
  by_cases a1 : bAnd .u8 c 127 < 32
  · rw [if_pos a1]
    (refine gox ?_)
    (refine finx ?_; try with_reducible rfl)
    try rfl
  rw [if_neg a1]
  by_cases a2 : bAnd .u8 c 127 = 127
  · rw [if_pos a2]
    (refine gox ?_)
    (refine finx ?_; try with_reducible rfl)
    try rfl
  rw [if_neg a2]
  (refine gox ?_)
  (refine finx ?_; try with_reducible rfl)
  rw [w]
theorem t_Char (tag : Nat) (o c : Int) : callω L T 61 tag [.int .i64 o, .int .u8 c] [none, none] = some (.int .i64 (charI o c), [none, none]) := by
  rw [call_ex (show T 61 = some (.code a61) from rfl) rfl rfl]
  have ti := t_IndexByte (tag + 1) placesL (bAnd .u8 c 127)
  have hr := idx_range placesL (bAnd .u8 c 127)
  have hl : (placesL.length : Int) = 13 := rfl
  rw [hl] at hr
  have e : charI o c = if idxOf placesL (bAnd .u8 c 127) < 0 then lplainI c else tabI (if o < 0 ∨ 13 ≤ o then 0 else o.toNat) (idxOf placesL (bAnd .u8 c 127)).toNat := rfl
  rw [e]
  generalize idxOf placesL (bAnd .u8 c 127) = k at ti hr
  by_cases a1 : k < 0
  · rw [if_pos a1]
    (have c1 := fun x1 => t_Places x1; have c2 := ti; have c3 := fun x1 x2 => t_Plain x1 x2; refine gox ?_; clear c1 c2 c3)
    (refine finx ?_; try with_reducible rfl)
  rw [if_neg a1]
  obtain ⟨k, rfl⟩ : ∃ n : Nat, k = n := ⟨k.toNat, by omega⟩
  have hk : k < 13 := by omega
  simp only [Int.toNat_natCast]
  by_cases a2 : o < 0
  · have g : ctCells[k + 1]? = some (.int .i64 (tabI 0 k)) := by have := ctCells_get (o := 0) (by omega) hk; rwa [Nat.zero_mul, Nat.zero_add, Nat.add_comm] at this
    rw [if_pos (Or.inl a2)]
    (have fA := And.intro @ctCells_len @g; have c1 := fun x1 => t_Places x1; have c2 := ti; have c3 := fun x1 => t_Options x1; have c4 := fun x1 => t_all x1; refine gox ?_; clear fA c1 c2 c3 c4)
    (refine finx ?_; try with_reducible rfl)
  by_cases a3 : 13 ≤ o
  · have g : ctCells[k + 1]? = some (.int .i64 (tabI 0 k)) := by have := ctCells_get (o := 0) (by omega) hk; rwa [Nat.zero_mul, Nat.zero_add, Nat.add_comm] at this
    rw [if_pos (Or.inr a3)]
    (have fA := And.intro @ctCells_len @g; have c1 := fun x1 => t_Places x1; have c2 := ti; have c3 := fun x1 => t_Options x1; have c4 := fun x1 => t_all x1; refine gox ?_; clear fA c1 c2 c3 c4)
    (refine finx ?_; try with_reducible rfl)
  rw [if_neg (by omega)]
  obtain ⟨o, rfl⟩ : ∃ n : Nat, o = n := ⟨o.toNat, by omega⟩
  have g : ctCells[o * 14 + 1 + k]? = some (.int .i64 (tabI o k)) := by rw [Nat.add_assoc]; exact ctCells_get (o := o) (by omega) hk
  simp only [Int.toNat_natCast]
  (have fA := And.intro @ctCells_len @g; have c1 := fun x1 => t_Places x1; have c2 := ti; have c3 := fun x1 => t_Options x1; have c4 := fun x1 => t_all x1; refine gox ?_; clear fA c1 c2 c3 c4)
  (refine finx ?_; try with_reducible rfl)
def regCells : List AV := regL.map (.int .i64)
theorem regCells_len : regCells.length = 56 := rfl
theorem t_regions (tag : Nat) : callω L T 47 tag [] [] = some (.agg regCells, []) := by
  rw [call_ex (show T 47 = some (.code a47) from rfl) rfl rfl]
  (refine gox ?_)
  (refine finx ?_; try with_reducible rfl)
  rfl
theorem reg_get {i : Nat} (h : i < 56) : regCells[i]? = some (.int .i64 (regL.getD i 0)) := by
  unfold regCells; rw [List.getElem?_map, List.getElem?_eq_getElem (show i < regL.length from h), List.getD_eq_getElem?_getD, List.getElem?_eq_getElem (show i < regL.length from h)]; rfl
theorem t_Option (tag : Nat) (r c : Int) : callω L T 39 tag [.int .i64 r, .int .i64 c] [none, none] = some (.int .i64 (optI r c), [none, none]) := by
  rw [call_ex (show T 39 = some (.code a39) from rfl) rfl rfl]
  unfold optI
  by_cases a1 : r < 0
  · rw [if_pos (by omega)]
    (have c1 := fun x1 => t_regions x1; refine gox ?_; clear c1)
    (refine finx ?_; try with_reducible rfl)
    rfl
  by_cases a2 : 7 ≤ r
  · rw [if_pos (by omega)]
    (have c1 := fun x1 => t_regions x1; refine gox ?_; clear c1)
    (refine finx ?_; try with_reducible rfl)
    rfl
  by_cases a3 : c < 0
  · rw [if_pos (by omega)]
    (have c1 := fun x1 => t_regions x1; refine gox ?_; clear c1)
    (refine finx ?_; try with_reducible rfl)
    rfl
  by_cases a4 : 8 ≤ c
  · rw [if_pos (by omega)]
    (have c1 := fun x1 => t_regions x1; refine gox ?_; clear c1)
    (refine finx ?_; try with_reducible rfl)
    rfl
  rw [if_neg (by omega)]
  obtain ⟨r, rfl⟩ : ∃ n : Nat, r = n := ⟨r.toNat, by omega⟩
  obtain ⟨c, rfl⟩ : ∃ n : Nat, c = n := ⟨c.toNat, by omega⟩
  simp only [Int.toNat_natCast]
  have g := reg_get (i := r * 8 + c) (by omega)
  have sr : setR (repl 7 [AV.int .i64 0, .int .i64 0, .int .i64 0, .int .i64 0, .int .i64 0, .int .i64 0, .int .i64 0, .int .i64 0]) 0 regCells = regCells := rfl
  (have fA := And.intro @sr (And.intro @g @regCells_len); have c1 := fun x1 => t_regions x1; refine gox ?_; clear fA c1)
  (refine finx ?_; try with_reducible rfl)
  all_goals simp

end Go.Proofs.Ytkienchmbfhigaa
