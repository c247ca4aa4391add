/- Functions of the seat, worked off from their code: chunk attr5. Written by program (tools/mkp.py) from wip/fn. -/
import Derived.Test.YtkienchmbfhigaaSimT
import Derived.Test.YtkienchmbfhigaaSimY
import Derived.Test.YtkienchmbfhigaaPattr4
set_option maxRecDepth 100000
set_option maxHeartbeats 40000000
set_option linter.unusedSimpArgs false
set_option linter.unusedVariables false
namespace Go.Proofs.Ytkienchmbfhigaa
open Go Go.Sim
attribute [local irreducible] chk brX getX strX setX takeX normX fillX lendX partsX opsX callK lentK lentR giveX adoptX resX joinX headX loopX seqK blkK regK finX exOps ex eqT
attribute [local simp] setR_int setR_bool setR_zero setR_succ repl_int repl_bool List.getElem?_cons_zero List.getElem?_cons_succ List.getElem?_nil w_i64 w_u64 w_u8 bAnd_u8 bOr_u8 bXor_u8 bAndNot_u8 bShl_u8 wrap_u8_range all_plain_int all_plain_bool all_plain_app pl_bool pl_int pl_str pl_nilp pl_nsl pl_nilI pl_nilF take_map_len AV.cells TI.isAgg
attribute [local simp] Cell.flen Cell.rd Cell.g0 Cell.g1 Cell.g2 Cell.g3 Cell.g4 Cell.g5 Cell.g6 Cell.g7 Cell.g8 Cell.g9 Cell.put Cell.pute Cell.s0 Cell.s1 Cell.s2 Cell.s3 Cell.s4 Cell.s5 Cell.s6 Cell.s7 Cell.s8 Cell.s9 Cell.zero Cell.enc At.flen At.rd At.g0 At.g1 At.g2 At.g3 At.g4 At.g5 At.g6 At.g7 At.g8 At.g9 At.g10 At.put At.pute At.s0 At.s1 At.s2 At.s3 At.s4 At.s5 At.s6 At.s7 At.s8 At.s9 At.s10 At.zero At.enc

/-- Short rows of zeros, written out. -/
theorem zr1 : List.map (AV.int .u8) (List.replicate 1 0) = [.int .u8 0] := rfl
theorem zr2 : List.map (AV.int .u8) (List.replicate 2 0) = [.int .u8 0, .int .u8 0] := rfl
theorem zr3 : List.map (AV.int .u8) (List.replicate 3 0) = [.int .u8 0, .int .u8 0, .int .u8 0] := rfl
theorem zr4 : List.map (AV.int .u8) (List.replicate 4 0) = [.int .u8 0, .int .u8 0, .int .u8 0, .int .u8 0] := rfl
theorem zr5 : List.map (AV.int .u8) (List.replicate 5 0) = [.int .u8 0, .int .u8 0, .int .u8 0, .int .u8 0, .int .u8 0] := rfl
theorem zr6 : List.map (AV.int .u8) (List.replicate 6 0) = [.int .u8 0, .int .u8 0, .int .u8 0, .int .u8 0, .int .u8 0, .int .u8 0] := rfl
theorem zr7 : List.map (AV.int .u8) (List.replicate 7 0) = [.int .u8 0, .int .u8 0, .int .u8 0, .int .u8 0, .int .u8 0, .int .u8 0, .int .u8 0] := rfl
theorem zr8 : List.map (AV.int .u8) (List.replicate 8 0) = [.int .u8 0, .int .u8 0, .int .u8 0, .int .u8 0, .int .u8 0, .int .u8 0, .int .u8 0, .int .u8 0] := rfl
/-- A loop that counts up to n and carries things on. -/
theorem headX_for {F : Fx} {a : Code} {κ : Ex → St → Ans} {X : Type} (I : Nat → X → Prop) (S : Nat → X → St) (n : Nat) (out : Ans)
    (h : ∀ k x, k < n → I k x → (∀ y, I (k + 1) y → headX F a (S (k + 1) y) κ = out) → ex F a (S k x) (seqK (loopX F a) κ) = out)
    (hn : ∀ x, I n x → ex F a (S n x) (seqK (loopX F a) κ) = out) (x : X) (hx : I 0 x) : headX F a (S 0 x) κ = out := by
  have H : ∀ m k x, k + m = n → I k x → headX F a (S k x) κ = out := by
    intro m
    induction m with
    | zero =>
      intro k x hk hx
      have e : k = n := by omega
      subst e
      rw [headX_go, hn x hx]
    | succ m ih =>
      intro k x hk hx
      rw [headX_go, h k x (by omega) hx fun y hy => ih (k + 1) y (by omega) hy]
  exact H n 0 x (by omega) hx
theorem dbl_keeps (s : At) (on : Bool) : (dblF s on).fg = s.fg ∧ (dblF s on).bg = s.bg := ⟨rfl, rfl⟩
theorem at_fg (s : At) (c : Int) : (atF s c).fg = s.fg := by
  unfold atF; repeat' split
  all_goals rfl
theorem at_bg (s : At) (c : Int) : (atF s c).bg = if c = 28 then 0 else if c = 29 then s.fg else s.bg := by
  unfold atF
  by_cases h1 : c = 28
  · subst h1; rfl
  rw [if_neg h1]
  by_cases h2 : c = 29
  · subst h2; rfl
  rw [if_neg h2, if_neg h1, if_neg h2]
  repeat' split
  all_goals rfl
theorem behind_bg (s : At) (c : Int) : (behindF s c).bg = s.bg := by
  unfold behindF; repeat' split
  all_goals rfl
theorem behind_fg (s : At) (c : Int) : (behindF s c).fg = if c < 8 then c else if 16 ≤ c ∧ c < 24 then c - 16 else s.fg := by
  unfold behindF; split
  · rfl
  · split
    · rfl
    · repeat' split
      all_goals rfl
theorem st_bg (bs : List Int) (o : Int) (k : Nat) : (stF bs o (k + 1)).bg = (atF (stF bs o k) (bAnd .u8 (bs.getD k 32) 127)).bg := behind_bg _ _
theorem st_fg (bs : List Int) (o : Int) (k : Nat) : (stF bs o (k + 1)).fg = if bAnd .u8 (bs.getD k 32) 127 < 8 then bAnd .u8 (bs.getD k 32) 127 else if 16 ≤ bAnd .u8 (bs.getD k 32) 127 ∧ bAnd .u8 (bs.getD k 32) 127 < 24 then bAnd .u8 (bs.getD k 32) 127 - 16 else (stF bs o k).fg := by
  have e : (stF bs o (k + 1)).fg = (behindF { atF (stF bs o k) (bAnd .u8 (bs.getD k 32) 127) with held := (glyphF (atF (stF bs o k) (bAnd .u8 (bs.getD k 32) 127)) (bAnd .u8 (bs.getD k 32) 127) o).2 } (bAnd .u8 (bs.getD k 32) 127)).fg := rfl
  rw [e, behind_fg]
  show (if _ then _ else if _ then _ else (atF (stF bs o k) (bAnd .u8 (bs.getD k 32) 127)).fg) = _
  rw [at_fg]
theorem ce_fg (bs : List Int) (o : Int) (k : Nat) : (ceF bs o k).fg = (stF bs o k).fg := at_fg _ _
theorem ce_bg (bs : List Int) (o : Int) (k : Nat) : (ceF bs o k).bg = (stF bs o (k + 1)).bg := (st_bg bs o k).symm
theorem getD_lt {bs : List Int} {k : Nat} (h : k < bs.length) : bs.getD k 32 = bs[k] := by rw [List.getD_eq_getElem?_getD, List.getElem?_eq_getElem h]; rfl
theorem a127_lt (c : Int) : bAnd .u8 c 127 < 128 := by
  have h : ∀ x : BitVec 8, (x &&& 127#8).toNat < 128 := by decide +kernel
  show IntKind.u8.wrap ((BitVec.ofInt 8 c &&& BitVec.ofInt 8 127).toNat : Int) < 128
  have := h (BitVec.ofInt 8 c)
  have e : (BitVec.ofInt 8 127) = 127#8 := by decide
  rw [e, w_u8 (by omega) (by omega)]
  omega
/-- The cells of bytes, one by one. -/
def walkF (o : Int) : At → List Int → List Cell
  | _, [] => []
  | s, b :: bs => (stepF s b o).2 :: walkF o (stepF s b o).1 bs
theorem walk_st (bs : List Int) (o : Int) : ∀ m j, walkF o (stF bs o j) ((List.range' j m).map fun k => bs.getD k 32) = (List.range' j m).map (ceF bs o)
  | 0, j => rfl
  | m + 1, j => by
    rw [List.range'_succ, List.map_cons, List.map_cons, walkF]
    exact congrArg (ceF bs o j :: ·) (walk_st bs o m (j + 1))
def wk (bs : List Int) (o : Int) : List Cell := walkF o At.start ((List.range' 0 40).map fun k => bs.getD k 32)
theorem wk_eq (bs : List Int) (o : Int) : wk bs o = (List.range' 0 40).map (ceF bs o) := walk_st bs o 40 0
theorem wk_get (bs : List Int) (o : Int) {k : Nat} (h : k < 40) : (wk bs o).getD k Cell.none = ceF bs o k := by
  rw [wk_eq, List.getD_eq_getElem?_getD, List.getElem?_map, List.getElem?_range' (by omega)]
  simp
theorem tall_any (bs : List Int) (o : Int) : ∀ k, tallF bs o k = (List.range' 0 k).any fun i => decide ((ceF bs o i).high = 1)
  | 0 => rfl
  | k + 1 => by
    rw [tallF, tall_any bs o k, List.range'_concat, List.any_append]
    simp
theorem wk_tall (bs : List Int) (o : Int) : tallF bs o 40 = (wk bs o).any fun c => decide (c.high = 1) := by
  rw [tall_any, wk_eq, List.any_map]
  rfl
theorem at_double (s : At) {c : Int} (h : s.double = false) : (atF s c).double = false := by
  unfold atF; repeat' split
  all_goals first | exact h | rfl
theorem behind_double (s : At) {c : Int} (h : s.double = false) (hc : c ≠ 13) : (behindF s c).double = false := by
  unfold behindF; repeat' split
  all_goals first | exact h | (exfalso; omega)
/-- Without 0x0d nothing is tall. -/
theorem st_double (bs : List Int) (o : Int) (h : ∀ k, bAnd .u8 (bs.getD k 32) 127 ≠ 13) : ∀ k, (stF bs o k).double = false
  | 0 => rfl
  | k + 1 => by
    have ih := st_double bs o h k
    exact behind_double _ (at_double _ ih) (h k)
theorem tall_none (bs : List Int) (o : Int) (h : ∀ k, bAnd .u8 (bs.getD k 32) 127 ≠ 13) : ∀ k, tallF bs o k = false
  | 0 => rfl
  | k + 1 => by
    rw [tallF, tall_none bs o h k]
    have e : (ceF bs o k).high = if (atF (stF bs o k) (bAnd .u8 (bs.getD k 32) 127)).double = true then 1 else 0 := rfl
    rw [e, at_double _ (st_double bs o h k)]
    rfl

end Go.Proofs.Ytkienchmbfhigaa
