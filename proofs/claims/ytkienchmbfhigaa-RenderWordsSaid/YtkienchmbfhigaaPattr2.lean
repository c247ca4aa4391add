/- Functions of the seat, worked off from their code: chunk attr2. Written by program (tools/mkp.py) from wip/fn. -/
import Derived.Test.YtkienchmbfhigaaSimT
import Derived.Test.YtkienchmbfhigaaSimY
import Derived.Test.YtkienchmbfhigaaPattr
set_option maxRecDepth 100000
set_option maxHeartbeats 40000000
set_option linter.unusedSimpArgs false
set_option linter.unusedVariables false
namespace Go.Proofs.Ytkienchmbfhigaa
open Go Go.Sim
attribute [local irreducible] chk brX getX strX setX takeX normX fillX lendX partsX opsX callK lentK lentR giveX adoptX resX joinX headX loopX seqK blkK regK finX exOps ex eqT
attribute [local simp] setR_int setR_bool setR_zero setR_succ repl_int repl_bool List.getElem?_cons_zero List.getElem?_cons_succ List.getElem?_nil w_i64 w_u64 w_u8 bAnd_u8 bOr_u8 bXor_u8 bAndNot_u8 bShl_u8 wrap_u8_range all_plain_int all_plain_bool all_plain_app pl_bool pl_int pl_str pl_nilp pl_nsl pl_nilI pl_nilF take_map_len AV.cells TI.isAgg
attribute [local simp] Cell.flen Cell.rd Cell.g0 Cell.g1 Cell.g2 Cell.g3 Cell.g4 Cell.g5 Cell.g6 Cell.g7 Cell.g8 Cell.g9 Cell.put Cell.pute Cell.s0 Cell.s1 Cell.s2 Cell.s3 Cell.s4 Cell.s5 Cell.s6 Cell.s7 Cell.s8 Cell.s9 Cell.zero Cell.enc At.flen At.rd At.g0 At.g1 At.g2 At.g3 At.g4 At.g5 At.g6 At.g7 At.g8 At.g9 At.g10 At.put At.pute At.s0 At.s1 At.s2 At.s3 At.s4 At.s5 At.s6 At.s7 At.s8 At.s9 At.s10 At.zero At.enc

/-- The state ahead of byte k, the cell of byte k, is one of the first k tall? -/
def stF (bs : List Int) (o : Int) : Nat → At
  | 0 => At.start
  | k + 1 => (stepF (stF bs o k) (bs.getD k 32) o).1
def ceF (bs : List Int) (o : Int) (k : Nat) : Cell := (stepF (stF bs o k) (bs.getD k 32) o).2
def tallF (bs : List Int) (o : Int) : Nat → Bool
  | 0 => false
  | k + 1 => tallF bs o k || decide ((ceF bs o k).high = 1)
def rowL (bs : List Int) (o : Int) (k : Nat) : List Cell := (List.range 40).map fun j => if j < k then ceF bs o j else Cell.none
theorem rowL_len (bs : List Int) (o : Int) (k : Nat) : (rowL bs o k).length = 40 := by simp [rowL]
theorem rowL_get (bs : List Int) (o : Int) (k : Nat) {j : Nat} (h : j < (rowL bs o k).length) : (rowL bs o k)[j] = if j < k then ceF bs o j else Cell.none := by simp [rowL]
theorem rowL_set (bs : List Int) (o : Int) {k : Nat} (h : k < 40) : (rowL bs o k).set k (ceF bs o k) = rowL bs o (k + 1) := by
  apply List.ext_getElem
  · simp [rowL_len]
  · intro i h1 h2
    rw [List.getElem_set, rowL_get, rowL_get]
    by_cases e : k = i
    · rw [if_pos e, if_pos (by omega), e]
    · rw [if_neg e]
      by_cases e2 : i < k
      · rw [if_pos e2, if_pos (by omega)]
      · rw [if_neg e2, if_neg (by omega)]
theorem rowL_zero (bs : List Int) (o : Int) : rowL bs o 0 = List.replicate 40 Cell.none := by
  apply List.ext_getElem
  · simp [rowL_len]
  · intro i h1 h2
    rw [rowL_get, List.getElem_replicate, if_neg (by omega)]
theorem t_Step (tag : Nat) (s : At) (b o : Int) : callω L T 43 tag [.agg s.enc, .int .u8 b, .int .i64 o] [none, none, none] = some (.tup [.agg (stepF s b o).1.enc, .agg (stepF s b o).2.enc], [none, none, none]) := by
  rw [call_ex (show T 43 = some (.code a43) from rfl) rfl rfl]
  obtain ⟨h0, h1⟩ := a127 b
  have e : stepF s b o = ({ behindF { atF s (bAnd .u8 b 127) with held := (glyphF (atF s (bAnd .u8 b 127)) (bAnd .u8 b 127) o).2 } (bAnd .u8 b 127) with last := bAnd .u8 b 127 }, cellF (atF s (bAnd .u8 b 127)) (glyphF (atF s (bAnd .u8 b 127)) (bAnd .u8 b 127) o).1) := rfl
  rw [e]
  have ta := t_at (tag + 1) s (bAnd .u8 b 127)
  generalize atF s (bAnd .u8 b 127) = t at ta ⊢
  have tg := t_at_glyph (tag + 1) t (bAnd .u8 b 127) o h0 h1
  generalize glyphF t (bAnd .u8 b 127) o = g at tg ⊢
  have tb := t_behind (tag + 1) { t with held := g.2 } (bAnd .u8 b 127) h0 h1
  generalize behindF { t with held := g.2 } (bAnd .u8 b 127) = u at tb ⊢
  unfold cellF
  cases hd : t.double
  all_goals (have fA := @At.enc.eq_1; have c1 := ta; have c2 := tg; have c3 := tb; refine gox ?_; clear fA c1 c2 c3)
  all_goals (refine finx ?_; try with_reducible rfl)
  all_goals try rfl

end Go.Proofs.Ytkienchmbfhigaa
