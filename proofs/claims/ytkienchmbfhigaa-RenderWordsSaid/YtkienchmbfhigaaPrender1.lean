/- Functions of the seat, worked off from their code: chunk render1. Written by program (tools/mkp.py) from wip/fn. -/
import Derived.Test.YtkienchmbfhigaaSimT
import Derived.Test.YtkienchmbfhigaaSimY
import Derived.Test.YtkienchmbfhigaaPcells
set_option maxRecDepth 100000
set_option maxHeartbeats 40000000
set_option linter.unusedSimpArgs false
set_option linter.unusedVariables false
namespace Go.Proofs.Ytkienchmbfhigaa
open Go Go.Sim
attribute [local irreducible] chk brX getX strX setX takeX normX fillX lendX partsX opsX callK lentK lentR giveX adoptX resX joinX headX loopX seqK blkK regK finX exOps ex eqT
attribute [local simp] setR_int setR_bool setR_zero setR_succ repl_int repl_bool List.getElem?_cons_zero List.getElem?_cons_succ List.getElem?_nil w_i64 w_u64 w_u8 bAnd_u8 bOr_u8 bXor_u8 bAndNot_u8 bShl_u8 wrap_u8_range all_plain_int all_plain_bool all_plain_app pl_bool pl_int pl_str pl_nilp pl_nsl pl_nilI pl_nilF take_map_len AV.cells TI.isAgg
attribute [local simp] Cell.flen Cell.rd Cell.g0 Cell.g1 Cell.g2 Cell.g3 Cell.g4 Cell.g5 Cell.g6 Cell.g7 Cell.g8 Cell.g9 Cell.put Cell.pute Cell.s0 Cell.s1 Cell.s2 Cell.s3 Cell.s4 Cell.s5 Cell.s6 Cell.s7 Cell.s8 Cell.s9 Cell.zero Cell.enc

def bk : Cell := ⟨32, 7, 0, false, false, false, false, false, 0, 0⟩
/-- The first k are f's, the others g's. -/
def mixF (f g : Nat → Cell) (n k : Nat) : List Cell := (List.range n).map fun j => if j < k then f j else g j
theorem mixF_len (f g : Nat → Cell) (n k : Nat) : (mixF f g n k).length = n := by simp [mixF]
theorem mixF_zero (f g : Nat → Cell) (n : Nat) : mixF f g n 0 = (List.range n).map g := by
  apply List.ext_getElem <;> simp [mixF]
theorem mixF_full (f g : Nat → Cell) (n : Nat) : mixF f g n n = (List.range n).map f := by
  apply List.ext_getElem
  · simp [mixF]
  · intro i h1 h2
    simp [mixF] at h1 ⊢
    intro h; omega
theorem mixF_set (f g : Nat → Cell) (n k : Nat) : (mixF f g n k).set k (f k) = mixF f g n (k + 1) := by
  apply List.ext_getElem
  · simp [mixF]
  · intro i h1 h2
    rw [List.getElem_set]
    by_cases e : k = i
    · subst e; simp [mixF]
    · simp only [e, if_false, mixF, List.getElem_map, List.getElem_range]
      by_cases h : i < k
      · rw [if_pos h, if_pos (by omega)]
      · rw [if_neg h, if_neg (by omega)]
theorem mixF_get (f g : Nat → Cell) (n k : Nat) (h : k < (mixF f g n k).length) : (mixF f g n k)[k] = g k := by simp [mixF]
theorem mixF_at (f g : Nat → Cell) (n k i : Nat) (h : i < (mixF f g n k).length) : (mixF f g n k)[i] = if i < k then f i else g i := by simp [mixF]
theorem mixF_none (f : Nat → Cell) (n : Nat) : mixF f (fun _ => Cell.none) n 0 = List.replicate n Cell.none := by
  rw [mixF_zero]; apply List.ext_getElem <;> simp
theorem cput {g l : List Cell} {r : Nat} (hl : l.length = 40) (h : r * 40 + 40 ≤ g.length) : setR (flat Cell.enc g) (r * 400) (flat Cell.enc l) = flat Cell.enc (g.take (r * 40) ++ (l ++ g.drop (r * 40 + 40))) := by
  unfold setR
  have e1 : (flat Cell.enc g).take (r * 400) = flat Cell.enc (g.take (r * 40)) := by rw [show r * 400 = r * 40 * 10 by omega, flt_take Cell.len]
  have e2 : (flat Cell.enc g).drop (r * 400 + (flat Cell.enc l).length) = flat Cell.enc (g.drop (r * 40 + 40)) := by
    rw [Cell.flen, hl, show r * 400 + 40 * 10 = (r * 40 + 40) * 10 by omega, flt_drop Cell.len]
  rw [e1, e2, flt_append, flt_append, List.append_assoc]
theorem cget {g : List Cell} {r : Nat} : ((flat Cell.enc g).drop (r * 400)).take 400 = flat Cell.enc ((g.drop (r * 40)).take 40) := by
  rw [show r * 400 = r * 40 * 10 by omega, show 400 = 40 * 10 from rfl, flt_drop Cell.len, flt_take Cell.len]
theorem mixF_row (f g : Nat → Cell) {r : Nat} (hr : r < 25) : (mixF f g 1000 (r * 40)).take (r * 40) ++ ((List.range 40).map (fun c => f (r * 40 + c)) ++ (mixF f g 1000 (r * 40)).drop (r * 40 + 40)) = mixF f g 1000 (r * 40 + 40) := by
  have l0 := mixF_len f g 1000 (r * 40)
  have lt : ((mixF f g 1000 (r * 40)).take (r * 40)).length = r * 40 := by rw [List.length_take, l0]; omega
  apply List.ext_getElem
  · simp [l0, mixF_len]; omega
  · intro i h1 h2
    rw [mixF_at]
    rw [mixF_len] at h2
    by_cases a : i < r * 40
    · rw [List.getElem_append_left (by omega), List.getElem_take, mixF_at, if_pos a, if_pos (by omega)]
    · rw [List.getElem_append_right (by omega)]
      by_cases b : i < r * 40 + 40
      · rw [List.getElem_append_left (by simp; omega), if_pos b]
        simp only [List.getElem_map, List.getElem_range, lt]
        congr 1
        omega
      · rw [List.getElem_append_right (by simp; omega), if_neg b]
        simp only [List.length_map, List.length_range, lt, List.getElem_drop]
        rw [mixF_at, if_neg (by omega)]
        congr 1
        omega
theorem row_of_range (f : Nat → Cell) {r : Nat} (hr : r < 25) : (((List.range 1000).map f).drop (r * 40)).take 40 = (List.range 40).map fun c => f (r * 40 + c) := by
  apply List.ext_getElem
  · simp; omega
  · intro i h1 h2
    simp
theorem mixF_rowget (f g : Nat → Cell) {r k : Nat} (hr : r < 25) (hk : k ≤ r * 40) : ((mixF f g 1000 k).drop (r * 40)).take 40 = (List.range 40).map fun c => g (r * 40 + c) := by
  apply List.ext_getElem
  · simp [mixF_len]; omega
  · intro i h1 h2
    simp only [List.getElem_take, List.getElem_drop, List.getElem_map, List.getElem_range]
    rw [mixF_at, if_neg (by omega)]
theorem zgrid : repl 25 (repl 40 [AV.int IntKind.i64 0, AV.int IntKind.i64 0, AV.int IntKind.i64 0, AV.bool false, AV.bool false, AV.bool false, AV.bool false, AV.bool false, AV.int IntKind.i64 0, AV.int IntKind.i64 0]) = flat Cell.enc (List.replicate 1000 Cell.none) := by
  rw [← Cell.zero 1000]
  simp [repl]
theorem t_blank (tag : Nat) : callω L T 24 tag [] [] = some (.agg bk.enc, []) := by
  rw [call_ex (show T 24 = some (.code a24) from rfl) rfl rfl]
  (refine gox ?_)
  (refine finx ?_; try with_reducible rfl)
  try rfl
theorem t_rrow (tag : Nat) : callω L T 19 tag [] [] = some (.agg (flat Cell.enc (List.replicate 40 bk)), []) := by
  rw [call_ex (show T 19 = some (.code a19) from rfl) rfl rfl]
  have tb := t_blank (tag + 1)
  (refine gox ?_)
  refine Eq.trans (head_eq (env' := [(0, .ref 0 (tag, 1) 0), (1, .ref 1 (tag, 1 + 1) 0), (3, .int .i64 ((0 : Nat) : Int))]) (heap' := [(0, ⟨(tag, 1), flat Cell.enc (List.replicate 40 Cell.none)⟩), (1, ⟨(tag, 1 + 1), flat Cell.enc (mixF (fun _ => bk) (fun _ => Cell.none) 40 0)⟩)]) rfl (by rw [mixF_none, ← Cell.zero]) rfl) ?_
  have lz : (flat Cell.enc (List.replicate 40 Cell.none)).length = 400 := by rw [Cell.flen]; simp
  generalize flat Cell.enc (List.replicate 40 Cell.none) = z0 at *
  refine headX_up (fun k => ⟨[(0, .ref 0 (tag, 1) 0), (1, .ref 1 (tag, 1 + 1) 0), (3, .int .i64 k)], [(0, ⟨(tag, 1), z0⟩), (1, ⟨(tag, 1 + 1), flat Cell.enc (mixF (fun _ => bk) (fun _ => Cell.none) 40 k)⟩)], 1 + 1 + 1, tag⟩) 40 _ ?_ ?_ 0 (by omega)
  · intro k hk
    have lm := mixF_len (fun _ => bk) (fun _ => Cell.none) 40 k
    have hs := Cell.pute (xs := mixF (fun _ => bk) (fun _ => Cell.none) 40 k) (i := k) (y := bk) (by omega)
    rw [show (mixF (fun _ => bk) (fun _ => Cell.none) 40 k).set k bk = _ from mixF_set (fun _ => bk) (fun _ => Cell.none) 40 k] at hs
    have l1 : (flat Cell.enc (mixF (fun _ => bk) (fun _ => Cell.none) 40 k)).length = 400 := by rw [Cell.flen, lm]
    generalize flat Cell.enc (mixF (fun _ => bk) (fun _ => Cell.none) 40 (k + 1)) = c2 at *
    generalize flat Cell.enc (mixF (fun _ => bk) (fun _ => Cell.none) 40 k) = c1 at *
    (have fA := And.intro @l1 @hs; have c1 := tb; refine gox ?_; clear fA c1)
    refine head_eq ?_ ?_ rfl
    · simp [wrap_succ hk (by omega)]
    · first | rfl | rw [← hs]; rfl
  · rw [mixF_full, show (List.range 40).map (fun _ => bk) = List.replicate 40 bk from rfl]
    have l2 : (flat Cell.enc (List.replicate 40 bk)).length = 400 := by rw [Cell.flen]; simp
    have tl : (flat Cell.enc (List.replicate 40 bk)).take 400 = flat Cell.enc (List.replicate 40 bk) := List.take_of_length_le (by omega)
    have hp := Cell.pl (List.replicate 40 bk)
    generalize flat Cell.enc (List.replicate 40 bk) = c1 at *
    have sa : setR z0 0 c1 = c1 := setR_all (by omega)
    (have fA := And.intro @l2 (And.intro @tl (And.intro @sa @lz)); refine gox ?_; clear fA)
    (have fA := And.intro @l2 (And.intro @tl (And.intro @hp (And.intro @sa @lz))); refine finx ?_; clear fA; try with_reducible rfl)
theorem t_Empty (tag : Nat) : callω L T 17 tag [] [] = some (.agg (flat Cell.enc (List.replicate 1000 bk)), []) := by
  rw [call_ex (show T 17 = some (.code a17) from rfl) rfl rfl]
  have tb := t_rrow (tag + 1)
  (refine gox ?_)
  refine Eq.trans (head_eq (env' := [(0, .ref 0 (tag, 1) 0), (1, .ref 1 (tag, 1 + 1) 0), (3, .int .i64 ((0 : Nat) : Int))]) (heap' := [(0, ⟨(tag, 1), flat Cell.enc (List.replicate 1000 Cell.none)⟩), (1, ⟨(tag, 1 + 1), flat Cell.enc (mixF (fun _ => bk) (fun _ => Cell.none) 1000 (0 * 40))⟩)]) rfl (by rw [Nat.zero_mul, mixF_none, zgrid]) rfl) ?_
  have lz : (flat Cell.enc (List.replicate 1000 Cell.none)).length = 10000 := by rw [Cell.flen]; simp
  generalize flat Cell.enc (List.replicate 1000 Cell.none) = z0 at *
  refine headX_up (fun k => ⟨[(0, .ref 0 (tag, 1) 0), (1, .ref 1 (tag, 1 + 1) 0), (3, .int .i64 k)], [(0, ⟨(tag, 1), z0⟩), (1, ⟨(tag, 1 + 1), flat Cell.enc (mixF (fun _ => bk) (fun _ => Cell.none) 1000 (k * 40))⟩)], 1 + 1 + 1, tag⟩) 25 _ ?_ ?_ 0 (by omega)
  · intro k hk
    have lm := mixF_len (fun _ => bk) (fun _ => Cell.none) 1000 (k * 40)
    have hs := cput (g := mixF (fun _ => bk) (fun _ => Cell.none) 1000 (k * 40)) (l := List.replicate 40 bk) (r := k) (by simp) (by omega)
    rw [show List.replicate 40 bk = (List.range 40).map (fun c => (fun _ => bk) (k * 40 + c)) from rfl, mixF_row (fun _ => bk) (fun _ => Cell.none) hk, show k * 40 + 40 = (k + 1) * 40 by omega, show (List.range 40).map (fun c => (fun _ => bk) (k * 40 + c)) = List.replicate 40 bk from rfl] at hs
    have l1 : (flat Cell.enc (mixF (fun _ => bk) (fun _ => Cell.none) 1000 (k * 40))).length = 10000 := by rw [Cell.flen, lm]
    have l2 : (flat Cell.enc (List.replicate 40 bk)).length = 400 := by rw [Cell.flen]; simp
    generalize flat Cell.enc (mixF (fun _ => bk) (fun _ => Cell.none) 1000 ((k + 1) * 40)) = c2 at *
    generalize flat Cell.enc (mixF (fun _ => bk) (fun _ => Cell.none) 1000 (k * 40)) = c1 at *
    generalize flat Cell.enc (List.replicate 40 bk) = c3 at *
    (have fA := And.intro @l1 (And.intro @l2 @hs); have c1 := tb; refine gox ?_; clear fA c1)
    refine head_eq ?_ ?_ rfl
    · simp [wrap_succ hk (by omega)]
    · first | rfl | rw [← hs]; rfl
  · rw [show 25 * 40 = 1000 from rfl, mixF_full, show (List.range 1000).map (fun _ => bk) = List.replicate 1000 bk from by
      apply List.ext_getElem
      · simp
      · intro i h1 h2; rw [List.getElem_map, List.getElem_replicate]]
    have l2 : (flat Cell.enc (List.replicate 1000 bk)).length = 10000 := by rw [Cell.flen]; simp
    have tl : (flat Cell.enc (List.replicate 1000 bk)).take 10000 = flat Cell.enc (List.replicate 1000 bk) := List.take_of_length_le (by omega)
    have hp := Cell.pl (List.replicate 1000 bk)
    generalize flat Cell.enc (List.replicate 1000 bk) = c1 at *
    have sa : setR z0 0 c1 = c1 := setR_all (by omega)
    (have fA := And.intro @l2 (And.intro @tl (And.intro @sa @lz)); refine gox ?_; clear fA)
    (have fA := And.intro @l2 (And.intro @tl (And.intro @hp (And.intro @sa @lz))); refine finx ?_; clear fA; try with_reducible rfl)
def fl0 (c : Cell) : Cell := { c with high := 0 }
theorem t_rflat (tag : Nat) (l : List Cell) (hl : l.length = 40) : callω L T 35 tag [.agg (flat Cell.enc l)] [none] = some (.agg (flat Cell.enc (l.map fl0)), [none]) := by
  rw [call_ex (show T 35 = some (.code a35) from rfl) rfl rfl]
  have tl : (flat Cell.enc l).take 400 = flat Cell.enc l := List.take_of_length_le (by rw [Cell.flen]; omega)
  (have fA := And.intro @Cell.flen (And.intro @hl @tl); refine gox ?_; clear fA)
  have lf : ∀ k, k < 40 → (l.getD k Cell.none) = l.getD k Cell.none := fun _ _ => rfl
  have e0 : l = mixF (fun k => fl0 (l.getD k Cell.none)) (fun k => l.getD k Cell.none) 40 0 := by
    rw [mixF_zero]
    apply List.ext_getElem
    · simp [hl]
    · intro i h1 h2; simp [List.getD_eq_getElem?_getD, h1]
  have eN : l.map fl0 = mixF (fun k => fl0 (l.getD k Cell.none)) (fun k => l.getD k Cell.none) 40 40 := by
    rw [mixF_full]
    apply List.ext_getElem
    · simp [hl]
    · intro i h1 h2
      simp at h1
      simp [List.getD_eq_getElem?_getD, h1]
  refine Eq.trans (head_eq (env' := [(1, .ref 1 (tag, 1) 0), (2, .ref 2 (tag, 1 + 1) 0), (4, .int .i64 ((0 : Nat) : Int))]) (heap' := [(1, ⟨(tag, 1), flat Cell.enc (mixF (fun k => fl0 (l.getD k Cell.none)) (fun k => l.getD k Cell.none) 40 0)⟩), (2, ⟨(tag, 1 + 1), flat Cell.enc (List.replicate 40 Cell.none)⟩)]) rfl (by rw [← e0, ← Cell.zero]) rfl) ?_
  rw [eN]
  have lz : (flat Cell.enc (List.replicate 40 Cell.none)).length = 400 := by rw [Cell.flen]; simp
  generalize flat Cell.enc (List.replicate 40 Cell.none) = z0 at *
  refine headX_up (fun k => ⟨[(1, .ref 1 (tag, 1) 0), (2, .ref 2 (tag, 1 + 1) 0), (4, .int .i64 k)], [(1, ⟨(tag, 1), flat Cell.enc (mixF (fun k => fl0 (l.getD k Cell.none)) (fun k => l.getD k Cell.none) 40 k)⟩), (2, ⟨(tag, 1 + 1), z0⟩)], 1 + 1 + 1, tag⟩) 40 _ ?_ ?_ 0 (by omega)
  · intro k hk
    have lm := mixF_len (fun k => fl0 (l.getD k Cell.none)) (fun k => l.getD k Cell.none) 40 k
    have hge := mixF_get (fun k => fl0 (l.getD k Cell.none)) (fun k => l.getD k Cell.none) 40 k (by omega)
    have hst := mixF_set (fun k => fl0 (l.getD k Cell.none)) (fun k => l.getD k Cell.none) 40 k
    have l1 : (flat Cell.enc (mixF (fun k => fl0 (l.getD k Cell.none)) (fun k => l.getD k Cell.none) 40 k)).length = 400 := by rw [Cell.flen, lm]
    have hs := Cell.s8 (xs := mixF (fun k => fl0 (l.getD k Cell.none)) (fun k => l.getD k Cell.none) 40 k) (i := k) (v := 0) (by omega)
    rw [hge, show ({ l.getD k Cell.none with high := 0 } : Cell) = fl0 (l.getD k Cell.none) from rfl, hst] at hs
    generalize flat Cell.enc (mixF (fun k => fl0 (l.getD k Cell.none)) (fun k => l.getD k Cell.none) 40 (k + 1)) = c2 at *
    generalize flat Cell.enc (mixF (fun k => fl0 (l.getD k Cell.none)) (fun k => l.getD k Cell.none) 40 k) = c1 at *
    (have fA := And.intro @l1 @hs; refine gox ?_; clear fA)
    refine head_eq ?_ ?_ rfl
    · simp [wrap_succ hk (by omega)]
    · first | rfl | rw [← hs]; rfl
  · clear e0 eN
    have l2 : (flat Cell.enc (mixF (fun k => fl0 (l.getD k Cell.none)) (fun k => l.getD k Cell.none) 40 40)).length = 400 := by rw [Cell.flen, mixF_len]
    have tl : (flat Cell.enc (mixF (fun k => fl0 (l.getD k Cell.none)) (fun k => l.getD k Cell.none) 40 40)).take 400 = flat Cell.enc (mixF (fun k => fl0 (l.getD k Cell.none)) (fun k => l.getD k Cell.none) 40 40) := List.take_of_length_le (by omega)
    have hp := Cell.pl (mixF (fun k => fl0 (l.getD k Cell.none)) (fun k => l.getD k Cell.none) 40 40)
    generalize flat Cell.enc (mixF (fun k => fl0 (l.getD k Cell.none)) (fun k => l.getD k Cell.none) 40 40) = c1 at *
    have sa : setR z0 0 c1 = c1 := setR_all (by omega)
    (have fA := And.intro @l2 (And.intro @tl (And.intro @sa @lz)); refine gox ?_; clear fA)
    (have fA := And.intro @l2 (And.intro @tl (And.intro @hp (And.intro @sa @lz))); refine finx ?_; clear fA; try with_reducible rfl)
def lowC (c : Cell) : Cell := if c.high = 1 then { c with high := 2 } else { bk with bg := c.bg, box := c.box }
theorem low_puts {M : List Cell} {k : Nat} {y : Cell} (hk : k < M.length) (hy : M[k] = y) : setR (flat Cell.enc M) (k * 10 + 8) [.int .i64 2] = flat Cell.enc (M.set k { y with high := 2 }) ∧
    setR (flat Cell.enc M) (k * 10) bk.enc = flat Cell.enc (M.set k bk) ∧ setR (flat Cell.enc (M.set k bk)) (k * 10 + 2) [.int .i64 y.bg] = flat Cell.enc (M.set k { bk with bg := y.bg }) ∧
    setR (flat Cell.enc (M.set k { bk with bg := y.bg })) (k * 10 + 5) [.bool y.box] = flat Cell.enc (M.set k { bk with bg := y.bg, box := y.box }) ∧
    (flat Cell.enc (M.set k bk)).length = M.length * 10 ∧ (flat Cell.enc (M.set k { bk with bg := y.bg })).length = M.length * 10 := by
  subst hy
  have p3 := Cell.s2 (xs := M.set k bk) (i := k) (v := M[k].bg) (by simpa using hk)
  have p4 := Cell.s5 (xs := M.set k { bk with bg := M[k].bg }) (i := k) (v := M[k].box) (by simpa using hk)
  simp only [List.getElem_set_self, List.set_set] at p3 p4
  exact ⟨Cell.s8 hk, Cell.pute hk, p3, p4, by rw [Cell.flen, List.length_set], by rw [Cell.flen, List.length_set]⟩
theorem t_lower (tag : Nat) (l : List Cell) (hl : l.length = 40) : callω L T 31 tag [.agg (flat Cell.enc l)] [none] = some (.agg (flat Cell.enc (l.map lowC)), [none]) := by
  rw [call_ex (show T 31 = some (.code a31) from rfl) rfl rfl]
  have tl : (flat Cell.enc l).take 400 = flat Cell.enc l := List.take_of_length_le (by rw [Cell.flen]; omega)
  (have fA := And.intro @Cell.flen (And.intro @hl @tl); refine gox ?_; clear fA)
  have tb := t_blank (tag + 1)
  have lf : ∀ k, k < 40 → (l.getD k Cell.none) = l.getD k Cell.none := fun _ _ => rfl
  have e0 : l = mixF (fun k => lowC (l.getD k Cell.none)) (fun k => l.getD k Cell.none) 40 0 := by
    rw [mixF_zero]
    apply List.ext_getElem
    · simp [hl]
    · intro i h1 h2; simp [List.getD_eq_getElem?_getD, h1]
  have eN : l.map lowC = mixF (fun k => lowC (l.getD k Cell.none)) (fun k => l.getD k Cell.none) 40 40 := by
    rw [mixF_full]
    apply List.ext_getElem
    · simp [hl]
    · intro i h1 h2
      simp at h1
      simp [List.getD_eq_getElem?_getD, h1]
  refine Eq.trans (head_eq (env' := [(1, .ref 1 (tag, 1) 0), (2, .ref 2 (tag, 1 + 1) 0), (5, .agg (flat Cell.enc l)), (6, .int .i64 ((0 : Nat) : Int))]) (heap' := [(1, ⟨(tag, 1), flat Cell.enc (mixF (fun k => lowC (l.getD k Cell.none)) (fun k => l.getD k Cell.none) 40 0)⟩), (2, ⟨(tag, 1 + 1), flat Cell.enc (List.replicate 40 Cell.none)⟩)]) rfl (by rw [← e0, ← Cell.zero]) rfl) ?_
  rw [eN]
  have lz : (flat Cell.enc (List.replicate 40 Cell.none)).length = 400 := by rw [Cell.flen]; simp
  generalize flat Cell.enc (List.replicate 40 Cell.none) = z0 at *
  refine headX_up (fun k => ⟨[(1, .ref 1 (tag, 1) 0), (2, .ref 2 (tag, 1 + 1) 0), (5, .agg (flat Cell.enc l)), (6, .int .i64 k)], [(1, ⟨(tag, 1), flat Cell.enc (mixF (fun k => lowC (l.getD k Cell.none)) (fun k => l.getD k Cell.none) 40 k)⟩), (2, ⟨(tag, 1 + 1), z0⟩)], 1 + 1 + 1 + k, tag⟩) 40 _ ?_ ?_ 0 (by omega)
  · intro k hk
    have lm := mixF_len (fun k => lowC (l.getD k Cell.none)) (fun k => l.getD k Cell.none) 40 k
    have hge := mixF_get (fun k => lowC (l.getD k Cell.none)) (fun k => l.getD k Cell.none) 40 k (by omega)
    have hst := mixF_set (fun k => lowC (l.getD k Cell.none)) (fun k => l.getD k Cell.none) 40 k
    have l1 : (flat Cell.enc (mixF (fun k => lowC (l.getD k Cell.none)) (fun k => l.getD k Cell.none) 40 k)).length = 400 := by rw [Cell.flen, lm]
    have hkl : k < l.length := by omega
    have hgk : l.getD k Cell.none = l[k] := by rw [List.getD_eq_getElem?_getD, List.getElem?_eq_getElem hkl]; rfl
    have hrd : ((flat Cell.enc l).drop (k * 10)).take 10 = l[k].enc := by rw [Cell.rd hkl]; rfl
    have lfl : (flat Cell.enc l).length = 400 := by rw [Cell.flen, hl]
    rw [hgk] at hge
    obtain ⟨p1, p2, p3, p4, q1, q2⟩ := low_puts (M := mixF (fun k => lowC (l.getD k Cell.none)) (fun k => l.getD k Cell.none) 40 k) (k := k) (y := l[k]) (by omega) hge
    rw [hgk] at hst
    rw [lm] at q1 q2
    clear e0 eN lf hge
    have hlo : lowC l[k] = if l[k].high = 1 then { l[k] with high := 2 } else { bk with bg := l[k].bg, box := l[k].box } := rfl
    rw [hlo] at hst
    clear hlo
    by_cases hh : l[k].high = 1
    · rw [if_pos hh] at hst
      rw [hst] at p1
      clear hst p2 p3 p4 q1 q2
      generalize flat Cell.enc (mixF (fun k => lowC (l.getD k Cell.none)) (fun k => l.getD k Cell.none) 40 (k + 1)) = c2 at *
      generalize flat Cell.enc (mixF (fun k => lowC (l.getD k Cell.none)) (fun k => l.getD k Cell.none) 40 k) = c1 at *
      generalize flat Cell.enc l = cl at *
      generalize l[k] = y at *
      obtain ⟨g, fg, bg, fl, co, bx, un, iv, hi, wi⟩ := y
      (have fA := And.intro @l1 (And.intro @p1 (And.intro @lfl (And.intro @hrd @Cell.enc.eq_1))); have c1 := tb; refine gox ?_; clear fA c1)
      refine head_eq ?_ ?_ rfl
      · simp [wrap_succ hk (by omega)]
      · first | rfl | rw [← p1]; rfl
    · rw [if_neg hh] at hst
      rw [hst] at p4
      clear hst p1
      generalize flat Cell.enc (mixF (fun k => lowC (l.getD k Cell.none)) (fun k => l.getD k Cell.none) 40 (k + 1)) = c2 at *
      generalize flat Cell.enc ((mixF (fun k => lowC (l.getD k Cell.none)) (fun k => l.getD k Cell.none) 40 k).set k bk) = c3 at *
      generalize flat Cell.enc ((mixF (fun k => lowC (l.getD k Cell.none)) (fun k => l.getD k Cell.none) 40 k).set k { bk with bg := l[k].bg }) = c4 at *
      generalize flat Cell.enc (mixF (fun k => lowC (l.getD k Cell.none)) (fun k => l.getD k Cell.none) 40 k) = c1 at *
      generalize flat Cell.enc l = cl at *
      generalize l[k] = y at *
      obtain ⟨g, fg, bg, fl, co, bx, un, iv, hi, wi⟩ := y
      have p2 : setR c1 (k * 10) [.int .i64 bk.glyph, .int .i64 bk.fg, .int .i64 bk.bg, .bool bk.flash, .bool bk.conceal, .bool bk.box, .bool bk.under, .bool bk.invert, .int .i64 bk.high, .int .i64 bk.wide] = c3 := p2
      dsimp only at p3 p4 hh
      (have fA := And.intro @l1 (And.intro @p2 (And.intro @p3 (And.intro @p4 (And.intro @q1 (And.intro @q2 (And.intro @lfl (And.intro @hrd @Cell.enc.eq_1))))))); have c1 := tb; refine gox ?_; clear fA c1)
      refine head_eq ?_ ?_ rfl
      · simp [wrap_succ hk (by omega)]
      · first | rfl | rw [← p4]; rfl
  · clear e0 eN
    have l2 : (flat Cell.enc (mixF (fun k => lowC (l.getD k Cell.none)) (fun k => l.getD k Cell.none) 40 40)).length = 400 := by rw [Cell.flen, mixF_len]
    have tl : (flat Cell.enc (mixF (fun k => lowC (l.getD k Cell.none)) (fun k => l.getD k Cell.none) 40 40)).take 400 = flat Cell.enc (mixF (fun k => lowC (l.getD k Cell.none)) (fun k => l.getD k Cell.none) 40 40) := List.take_of_length_le (by omega)
    have hp := Cell.pl (mixF (fun k => lowC (l.getD k Cell.none)) (fun k => l.getD k Cell.none) 40 40)
    generalize flat Cell.enc (mixF (fun k => lowC (l.getD k Cell.none)) (fun k => l.getD k Cell.none) 40 40) = c1 at *
    have sa : setR z0 0 c1 = c1 := setR_all (by omega)
    (have fA := And.intro @l2 (And.intro @tl (And.intro @sa @lz)); refine gox ?_; clear fA)
    (have fA := And.intro @l2 (And.intro @tl (And.intro @hp (And.intro @sa @lz))); refine finx ?_; clear fA; try with_reducible rfl)
def shownC (c : Cell) (boxed reveal mix : Bool) : Cell :=
  let c1 : Cell := if c.conceal = true ∧ reveal = false then { c with glyph := 32 } else c
  let c2 : Cell := if boxed = true ∧ c1.box = false then bk else c1
  if mix = true ∧ c2.box = false then { c2 with bg := -1 } else c2
theorem t_shown (tag : Nat) (c : Cell) (boxed reveal mix : Bool) : callω L T 20 tag [.agg c.enc, .bool boxed, .agg [.bool reveal, .bool mix]] [none, none, none] = some (.agg (shownC c boxed reveal mix).enc, [none, none, none]) := by
  rw [call_ex (show T 20 = some (.code a20) from rfl) rfl rfl]
  have tb := t_blank (tag + 1)
  obtain ⟨g, fg, bg, fl, co, bx, un, iv, hi, wi⟩ := c
  cases boxed <;> cases reveal <;> cases mix <;> cases co <;> cases bx
  all_goals (have fA := @Cell.enc.eq_1; have c1 := tb; refine gox ?_; clear fA c1)
  all_goals (refine finx ?_; try with_reducible rfl)
  all_goals rfl

end Go.Proofs.Ytkienchmbfhigaa
