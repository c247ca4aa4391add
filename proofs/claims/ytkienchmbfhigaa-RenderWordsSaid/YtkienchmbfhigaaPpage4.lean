/- Functions of the seat, worked off from their code: chunk page4. Written by program (tools/mkp.py) from wip/fn. -/
import Derived.Test.YtkienchmbfhigaaSimT
import Derived.Test.YtkienchmbfhigaaSimY
import Derived.Test.YtkienchmbfhigaaPpage3
set_option maxRecDepth 100000
set_option maxHeartbeats 40000000
set_option linter.unusedSimpArgs false
set_option linter.unusedVariables false
namespace Go.Proofs.Ytkienchmbfhigaa
open Go Go.Sim
attribute [local irreducible] chk brX getX strX setX takeX normX fillX lendX partsX opsX callK lentK lentR giveX adoptX resX joinX headX loopX seqK blkK regK finX exOps ex eqT
attribute [local simp] setR_int setR_bool setR_zero setR_succ repl_int repl_bool List.getElem?_cons_zero List.getElem?_cons_succ List.getElem?_nil w_i64 w_u64 w_u8 bAnd_u8 bOr_u8 bXor_u8 bAndNot_u8 bShl_u8 wrap_u8_range all_plain_int all_plain_bool all_plain_app pl_bool pl_int pl_str pl_nilp pl_nsl pl_nilI pl_nilF take_map_len AV.cells TI.isAgg
attribute [local simp] Tr.flen Tr.rd Tr.g0 Tr.g1 Tr.g2 Tr.put Tr.pute Tr.s0 Tr.s1 Tr.s2 Tr.zero Tr.enc Hd.flen Hd.rd Hd.g0 Hd.g1 Hd.g2 Hd.g3 Hd.g4 Hd.g5 Hd.g6 Hd.g7 Hd.g8 Hd.g9 Hd.g10 Hd.g11 Hd.g12 Hd.g13 Hd.g14 Hd.put Hd.pute Hd.s0 Hd.s1 Hd.s2 Hd.s3 Hd.s4 Hd.s5 Hd.s6 Hd.s7 Hd.s8 Hd.s9 Hd.s10 Hd.s11 Hd.s12 Hd.s13 Hd.s14 Hd.zero Hd.enc

def rep1 (b : Int) (N n : Nat) : List AV := (List.replicate n b ++ List.replicate (N - n) 0).map (.int .u8)
theorem rep1_len {b : Int} {N n : Nat} (h : n ≤ N) : (rep1 b N n).length = N := by simp [rep1]; omega
theorem rep1_step {b : Int} {N n m : Nat} (h : n ≤ N) (hm : m = min n (N - n)) : setR (rep1 b N n) n (((rep1 b N n).take n).take m) = rep1 b N (n + m) := by
  subst hm
  have e1 : (rep1 b N n).take n = List.replicate n (.int .u8 b) := by simp [rep1]
  rw [e1, List.take_replicate, Nat.min_eq_left (Nat.min_le_left _ _)]
  unfold setR rep1
  have e2 : (List.map (AV.int IntKind.u8) (List.replicate n b ++ List.replicate (N - n) 0)).take n = List.replicate n (.int .u8 b) := by simp
  rw [e2]
  simp only [List.map_append, List.map_replicate, List.length_replicate]
  rw [List.drop_append, List.drop_eq_nil_of_le (by simp), List.length_replicate, List.drop_replicate, List.nil_append, List.replicate_append_replicate]
  congr 2
  omega
theorem t_RepeatN (tag : Nat) (b : Int) (N : Nat) (h : N = 8 ∨ N = 40) : callω L T 44 tag [.isl 1 1 [.int .u8 b], .int .i64 N] [none, none] = some (.fsl 1 N ((List.replicate N b).map (.int .u8)), [none, none]) := by
  rw [call_ex (show T 44 = some (.code a44) from rfl) rfl rfl]
  have w1 : IntKind.u64.wrap (N : Int) = N := w_u64 (by omega) (by omega)
  have tm : callω L T 53 (tag + 1) [.int .u64 (IntKind.u64.wrap ((1 : Nat) : Int)), .int .u64 (IntKind.u64.wrap (N : Int))] [none, none] = some (.tup [.int .u64 0, .int .u64 N], [none, none]) := by rw [w1]; exact t_Mul (tag + 1) N (by omega)
  have w2 : IntKind.i64.wrap (N : Int) = N := w_i64 (by omega) (by omega)
  have hz : List.map (AV.int .u8) (List.replicate N 0) = rep1 b N 0 := by simp [rep1]
  have l0 := rep1_len (b := b) (N := N) (n := 0) (by omega)
  have h1 : setR (rep1 b N 0) 0 [.int .u8 b] = rep1 b N 1 := by
    rcases h with rfl | rfl <;> rfl
  have hlast : rep1 b N N = (List.replicate N b).map (.int .u8) := by simp [rep1]
  have hpl : (rep1 b N N).all AV.plain = true := by rw [hlast]; simp [AV.plain]
  have hlen := rep1_len (b := b) (N := N) (n := N) (by omega)
  (have fA := And.intro @w1 (And.intro @w2 (And.intro @hz (And.intro @l0 @h1))); have c1 := tm; refine gox ?_; clear fA c1)
  refine Eq.trans (head_eq (env' := [(7, .msl 30 (tag, 1 + 1) 1 0 N), (8, .int .i64 ((1 : Nat) : Int))]) (heap' := [(30, ⟨(tag, 1 + 1), rep1 b N 1⟩)]) ?_ ?_ rfl) ?_
  · simp [w2]; omega
  · simp [h1, Nat.min_eq_left (show 1 ≤ N by omega)]
  refine headX_ind (fun n : Nat => ⟨[(7, .msl 30 (tag, 1 + 1) 1 0 N), (8, .int .i64 n)], [(30, ⟨(tag, 1 + 1), rep1 b N n⟩)], 1 + 1 + 1, tag⟩) (fun _ => some (.fsl 1 N ((List.replicate N b).map (.int .u8)), [none, none])) (fun n => N - n) (fun n => 1 ≤ n ∧ n ≤ N) ?_ 1 (by omega)
  rintro n ⟨h2, h3⟩ ih
  by_cases hn : n < N
  · refine Eq.trans ?_ (ih (n + min n (N - n)) (by omega) (by omega))
    have hl := rep1_len (b := b) (N := N) (n := n) h3
    have hs := rep1_step (b := b) (N := N) (n := n) h3 rfl
    clear ih hz l0 h1 hpl hlen
    generalize rep1 b N (n + min n (N - n)) = c2 at hs ⊢
    generalize rep1 b N n = c1 at *
    (have fA := And.intro @hl (And.intro @hs (@List.drop_zero AV)); refine gox ?_; clear fA)
    refine head_eq ?_ ?_ rfl
    · simp only [Int.toNat_natCast, show Int.toNat 0 = 0 from rfl, Nat.sub_zero]
      rw [w_i64 (by omega) (by omega), Int.natCast_add]
    · rfl
  · obtain rfl : n = N := by omega
    (refine gox ?_)
    (have fA := And.intro @hlen @hpl; refine finx ?_; clear fA; try with_reducible rfl)
    rw [hlast]
theorem t_Repeat40 (tag : Nat) (b : Int) : callω L T 44 tag [.isl 1 1 [.int .u8 b], .int .i64 40] [none, none] = some (.fsl 1 40 ((List.replicate 40 b).map (.int .u8)), [none, none]) := t_RepeatN tag b 40 (Or.inr rfl)
def lineF (p : Pg) (row : Int) : List Int := if row < 0 ∨ 24 < row then List.replicate 40 32 else if p.is row.toNat = true then p.row row.toNat else List.replicate 40 32
theorem lineF_len {p : Pg} (hp : p.Ok) (row : Int) : (lineF p row).length = 40 := by
  unfold lineF
  split
  · simp
  · split
    · exact Pg.row_len hp (by omega)
    · simp
attribute [local irreducible] Pg.enc
theorem t_Line (tag : Nat) (p : Pg) (hp : p.Ok) {x : AV} (hx : ExOK x p.extra) (row : Int) : callω L T 33 tag [.agg (p.enc x), .int .i64 row] [none, none] = some (.fsl 1 40 ((lineF p row).map (.int .u8)), [none, none]) := by
  rw [call_ex (show T 33 = some (.code a33) from rfl) rfl rfl]
  have tr := t_Repeat40 (tag + 1) 32
  have oz := Pg.none_ok
  unfold lineF
  by_cases h1 : row < 0
  · rw [if_pos (Or.inl h1)]
    rcases hx with rfl | ⟨rfl, he⟩
    all_goals (have fA := And.intro @pgs @Pg.zero_eq; have c1 := tr; refine gox ?_; clear fA c1)
    all_goals (refine finx ?_; try with_reducible rfl)
  by_cases h2 : 24 < row
  · rw [if_pos (Or.inr h2)]
    rcases hx with rfl | ⟨rfl, he⟩
    all_goals (have fA := And.intro @pgs @Pg.zero_eq; have c1 := tr; refine gox ?_; clear fA c1)
    all_goals (refine finx ?_; try with_reducible rfl)
  rw [if_neg (by omega)]
  obtain ⟨r, rfl⟩ : ∃ r : Nat, row = r := ⟨row.toNat, by omega⟩
  have hr : r < 25 := by omega
  simp only [Int.toNat_natCast]
  have lm := Pg.row_len hp hr
  have tc := t_CloneB (tag + 1) (p.row r) (by omega)
  rw [lm] at tc
  cases his : p.is r
  · rw [if_neg (by decide)]
    rcases hx with rfl | ⟨rfl, he⟩
    all_goals (have fA := And.intro @pgs @Pg.zero_eq; have c1 := tr; refine gox ?_; clear fA c1)
    all_goals (refine finx ?_; try with_reducible rfl)
  · rw [if_pos rfl]
    rcases hx with rfl | ⟨rfl, he⟩
    all_goals (have fA := And.intro @pgs (And.intro @Pg.zero_eq @Nat.add_zero); have c1 := tc; refine gox ?_; clear fA c1)
    all_goals (refine finx ?_; try with_reducible rfl)
end Go.Proofs.Ytkienchmbfhigaa
