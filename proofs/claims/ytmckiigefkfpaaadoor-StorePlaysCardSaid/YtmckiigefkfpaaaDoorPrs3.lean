/- Functions of the seat, worked off from their code: chunk rs3. Written by program (tools/mkp.py) from wip/fn. -/
import Derived.Test.YtmckiigefkfpaaaDoorSimT
import Derived.Test.YtmckiigefkfpaaaDoorSimY
import Derived.Test.YtmckiigefkfpaaaDoorPnum
import Derived.Test.YtmckiigefkfpaaaDoorPst0
import Derived.Test.YtmckiigefkfpaaaDoorPst4iS
import Derived.Test.YtmckiigefkfpaaaDoorPst5iS
import Derived.Test.YtmckiigefkfpaaaDoorPst6iS
import Derived.Test.YtmckiigefkfpaaaDoorPst7
import Derived.Test.YtmckiigefkfpaaaDoorPst5c
import Derived.Test.YtmckiigefkfpaaaDoorPrs1
import Derived.Test.YtmckiigefkfpaaaDoorPrs2
import Derived.Test.YtmckiigefkfpaaaDoorPrs2b
import Derived.Test.YtmckiigefkfpaaaDoorPsee2
set_option maxRecDepth 100000
set_option maxHeartbeats 40000000
set_option linter.unusedSimpArgs false
set_option linter.unusedVariables false
namespace Go.Proofs.YtmckiigefkfpaaaDoor
open Go Go.Sim
attribute [local irreducible] chk brX hX finH keyX visit packed backPk backOk backHeap stays getAll getX strX setX takeX normX fillX lendX partsX opsX callK lentK lentR giveX adoptX resX joinX headX loopX seqK blkK regK finX exOps ex eqT
attribute [local simp] setR_int setR_bool setR_zero setR_succ repl_int repl_bool List.getElem?_cons_zero List.getElem?_cons_succ List.getElem?_nil w_i64 w_u64 w_u8 bAnd_u8 bOr_u8 bXor_u8 bAndNot_u8 bShl_u8 wrap_u8_range all_plain_int all_plain_bool all_plain_app pl_bool pl_int pl_str pl_nilp pl_nsl pl_nilI pl_nilF take_map_len AV.cells TI.isAgg
structure Do where
  k : Int
  key : Int
  val : ByteArray
  deriving DecidableEq
def Do.enc (s : Do) : List AV := [.int .i64 s.k, .int .i64 s.key, .str s.val]
theorem Do.len (s : Do) : s.enc.length = 3 := rfl
theorem Do.flen (xs : List Do) : (flat Do.enc xs).length = xs.length * 3 := flt_len Do.len xs
theorem Do.pl (xs : List Do) : (flat Do.enc xs).all AV.plain = true := flt_plain (fun _ => rfl) xs
theorem Do.rd {xs : List Do} {i : Nat} (h : i < xs.length) : ((flat Do.enc xs).drop (i * 3)).take 3 = [.int .i64 xs[i].k, .int .i64 xs[i].key, .str xs[i].val] := flt_rd Do.len h
theorem Do.g0 {xs : List Do} {i : Nat} (h : i < xs.length) : (flat Do.enc xs)[i * 3]? = some (.int .i64 xs[i].k) := by simpa [Do.enc] using flt_get (k := 0) Do.len h (by omega)
theorem Do.g1 {xs : List Do} {i : Nat} (h : i < xs.length) : (flat Do.enc xs)[i * 3 + 1]? = some (.int .i64 xs[i].key) := flt_get Do.len h (by omega)
theorem Do.g2 {xs : List Do} {i : Nat} (h : i < xs.length) : (flat Do.enc xs)[i * 3 + 2]? = some (.str xs[i].val) := flt_get Do.len h (by omega)
theorem Do.put {xs : List Do} {i : Nat} {a0 : Int} {a1 : Int} {a2 : ByteArray} (h : i < xs.length) : setR (flat Do.enc xs) (i * 3) [.int .i64 a0, .int .i64 a1, .str a2] = flat Do.enc (xs.set i ⟨a0, a1, a2⟩) := flt_set Do.len (y := ⟨a0, a1, a2⟩) h
theorem Do.pute {xs : List Do} {i : Nat} {y : Do} (h : i < xs.length) : setR (flat Do.enc xs) (i * 3) y.enc = flat Do.enc (xs.set i y) := flt_set Do.len h
theorem Do.enc_eq {a0 : Int} {a1 : Int} {a2 : ByteArray} : Do.enc ⟨a0, a1, a2⟩ = [.int .i64 a0, .int .i64 a1, .str a2] := rfl
theorem Do.s0 {xs : List Do} {i : Nat} {v : Int} (h : i < xs.length) : setR (flat Do.enc xs) (i * 3) [.int .i64 v] = flat Do.enc (xs.set i { xs[i] with k := v }) := by simpa using flt_setk (k := 0) Do.len h (by simp) (show setR (Do.enc xs[i]) 0 [.int .i64 v] = Do.enc { xs[i] with k := v } from rfl)
theorem Do.s1 {xs : List Do} {i : Nat} {v : Int} (h : i < xs.length) : setR (flat Do.enc xs) (i * 3 + 1) [.int .i64 v] = flat Do.enc (xs.set i { xs[i] with key := v }) := flt_setk (k := 1) Do.len h (by simp) (show setR (Do.enc xs[i]) 1 [.int .i64 v] = Do.enc { xs[i] with key := v } from rfl)
theorem Do.s2 {xs : List Do} {i : Nat} {v : ByteArray} (h : i < xs.length) : setR (flat Do.enc xs) (i * 3 + 2) [.str v] = flat Do.enc (xs.set i { xs[i] with val := v }) := flt_setk (k := 2) Do.len h (by simp) (show setR (Do.enc xs[i]) 2 [.str v] = Do.enc { xs[i] with val := v } from rfl)
def Do.none : Do := ⟨0, 0, ByteArray.empty⟩
theorem Do.zero (n : Nat) : repl n [.int .i64 0, .int .i64 0, .str ByteArray.empty] = flat Do.enc (List.replicate n Do.none) := flt_repl n Do.none [.int .i64 0, .int .i64 0, .str ByteArray.empty] rfl
def Do.ok (s : Do) : Prop := (Lit.int .i64 s.k).wf = true ∧ (Lit.int .i64 s.key).wf = true ∧ s.val.size ≤ maxLen
theorem Do.of {n : Nat} {fs : List (Nat × Nat)} {cs : List AV} (h : zipShp (Shp L (n + 1)) fs cs) (hs : fs.map (dsc L) = [some (.int .i64), some (.int .i64), some .str]) : ∃ s : Do, cs = s.enc ∧ s.ok := by
  obtain ⟨x0, gs, r, rfl, w0, h, hs⟩ := zipd_int h hs
  obtain ⟨x1, gs, r, rfl, w1, h, hs⟩ := zipd_int h hs
  obtain ⟨x2, gs, r, rfl, w2, h, hs⟩ := zipd_str h hs
  obtain rfl := zipd_nil h hs
  exact ⟨⟨x0, x1, x2⟩, rfl, ⟨w0, w1, w2⟩⟩
theorem Do.parts {n e sz bt : Nat} {fs : List (Nat × Nat)} {z : List AV} (hl : L e = some ⟨.strct fs, sz, bt, z⟩) (hs : fs.map (dsc L) = [some (.int .i64), some (.int .i64), some .str]) (ps : List (List AV)) (h : ∀ p ∈ ps, Shp L (n + 2) e p) : ∃ ys : List Do, ps.flatten = flat Do.enc ys ∧ ys.length = ps.length ∧ ∀ y ∈ ys, y.ok :=
  parts_flat (fun p hp => Do.of (shp_strct hl hp) hs) ps h

/-- How much text there is in the first ones, as it is reckoned. -/
def accD (ds : List Do) : Nat → Int
  | 0 => 0
  | j + 1 => IntKind.i64.wrap (accD ds j + (ds[j]?.elim 0 fun d => (d.val.size : Int)))
theorem accD_succ (ds : List Do) {j : Nat} (h : j < ds.length) : accD ds (j + 1) = IntKind.i64.wrap (accD ds j + (ds[j].val.size : Int)) := by
  rw [accD, List.getElem?_eq_getElem h]; rfl
attribute [local simp] Do.flen Do.rd Do.g0 Do.g1 Do.g2 Do.put Do.pute Do.s0 Do.s1 Do.s2 Do.zero Do.enc

theorem light_ok (tag : Nat) (ds : List Do) (hn : ds.length ≤ 9223372036854775807) : callω L T 29 tag [.isl 3 ds.length (flat Do.enc ds)] [none] = some (.bool (decide (ds.length ≤ 80) && decide (accD ds ds.length ≤ 2000)), [none]) := by
  rw [call_ex (show T 29 = some (.code a29) from rfl) rfl rfl]
  (refine gox ?_)
  refine Eq.trans (headX_at (fun j nx => ⟨[(0, .isl 3 ds.length (flat Do.enc ds)), (3, .int .i64 (accD ds j)), (4, .int .i64 (j : Nat))], [], nx, tag⟩) ds.length (fun _ => some (.bool (decide (ds.length ≤ 80) && decide (accD ds ds.length ≤ 2000)), [none])) ?_ ?_ _) rfl
  · intro j nx hj ih
    have hl : (flat Do.enc ds).length = ds.length * 3 := Do.flen ds
    (have fA := @hl; refine gox ?_; clear fA)
    refine Eq.trans (head_eq (by rw [wrap_succ hj (by omega), accD_succ ds hj]) rfl rfl) (ih _)
  · intro nx
    generalize accD ds ds.length = n
    by_cases h1 : ds.length ≤ 80
    · rw [decide_eq_true h1, Bool.true_and]
      have h1' : ((ds.length : Nat) : Int) ≤ 80 := by omega
      (refine gox ?_)
      (refine finx ?_; try with_reducible rfl)
    · rw [decide_eq_false h1, Bool.false_and]
      have h1' : ¬ ((ds.length : Nat) : Int) ≤ 80 := by omega
      (refine gox ?_)
      (refine finx ?_; try with_reducible rfl)

end Go.Proofs.YtmckiigefkfpaaaDoor
