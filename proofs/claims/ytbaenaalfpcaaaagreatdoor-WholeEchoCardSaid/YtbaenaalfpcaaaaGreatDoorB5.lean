/- Part of the proof: an interpreter of the model, proved sound, and what it makes of the functions. -/
import Derived.Test.YtbaenaalfpcaaaaGreatDoorA5
import Derived.Test.YtbaenaalfpcaaaaGreatDoorA4
import Derived.Test.YtbaenaalfpcaaaaGreatDoorB2
import Derived.Test.YtbaenaalfpcaaaaGreatDoorB4
import Derived.Test.YtbaenaalfpcaaaaGreatDoorB1
set_option linter.unusedVariables false
set_option linter.unusedSimpArgs false
set_option linter.unnecessarySimpa false
set_option maxRecDepth 100000
set_option maxHeartbeats 40000000
namespace Go.Proofs.YtbaenaalfpcaaaaGreatDoor
open Go Go.Sim
attribute [local irreducible] chk brX hX finH keyX visit packed backPk backOk backHeap stays getAll getX strX setX takeX normX fillX lendX partsX opsX callK lentK lentR giveX adoptX resX joinX headX loopX seqK blkK regK finX exOps ex eqT finMX matAll
attribute [local simp] zc2 zbg zbd zau zbm zb6 List.getElem?_cons_zero List.getElem?_cons_succ List.getElem?_nil w_i64 w_u64 w_u8 zcu bOr_u8 zcv zb3 zd0 zaj zar zao zaq zcy pl_int pl_str zcz pl_nsl zd1 zcx zag AV.cells TI.isAgg
section
attribute [local simp] Cell.flen Cell.rd Cell.put Cell.pute Cell.zero Cell.enc
theorem t_SameCell (tag : Nat) (a b : Cell) : callω L T 122 tag [.agg a.enc, .agg b.enc] [none, none] = some (.bool (decide (a = b)), [none, none]) := by
 rw [za5 (show T 122 = some (.code a122) from rfl) rfl rfl]
 (refine gox ?_)
 iterate 9 ((first | refine zby (by apply Eq.refl) (by apply Eq.refl) (by intro κ'; apply Eq.refl) (by intro κ'; apply Eq.refl) (fun h => ?_) (fun h => ?_) | refine zc0 (fun h => ?_) (fun h => ?_) | refine zcg (fun h => ?_) (fun h => ?_)); rotate_left; ((refine gox ?_); (refine finx ?_; try with_reducible rfl); refine ans_eq (congrArg AV.bool ?_) rfl; refine (decide_eq_false fun e => ?_).symm; subst e; simp at *); (refine gox ?_))
 (refine finx ?_; try with_reducible rfl)
 refine ans_eq (congrArg AV.bool ?_) rfl
 cases a; cases b
 simp only [decide_eq_true_eq, beq_iff_eq] at *
 simp [*]
theorem zih (tag : Nat) (a : Cell) : callω L T 122 tag [.agg a.enc, .agg a.enc] [none, none] = some (.bool true, [none, none]) := by
 have := t_SameCell tag a a
 rwa [decide_eq_true rfl] at this
theorem t_SameRow (tag : Nat) (a : List Cell) (ha : a.length = 40) : callω L T 75 tag [.agg (flat Cell.enc a), .agg (flat Cell.enc a)] [none, none] = some (.bool true, [none, none]) := by
 rw [za5 (show T 75 = some (.code a75) from rfl) rfl rfl]
 have ta : (flat Cell.enc a).take 400 = flat Cell.enc a := List.take_of_length_le (by rw [Cell.flen]; omega)
 (have fA := aI @ta @Cell.flen; refine gox ?_; clear fA)
 refine zcr (fun k nx => ⟨[(2, .ref 2 (tag, 1) 0), (3, .ref 3 (tag, 1 + 1) 0), (5, .int .i64 k)], [(2, ⟨(tag, 1), flat Cell.enc a⟩), (3, ⟨(tag, 1 + 1), flat Cell.enc a⟩)], nx, tag⟩) 40 _ ?_ ?_ 0 _ (by omega)
 ·intro k nx hk
  have hka : k < a.length := by omega
  have hs := zih (tag + 1) a[k]
  refine ⟨nx, ?_⟩
  (have fA := aI @Cell.flen @Cell.rd; have c1 := hs; refine gox ?_; clear fA c1)
  refine zaa ?_ rfl rfl
  simp [zah hk (by omega)]
 ·intro nx
  (refine gox ?_)
  (refine finx ?_; try with_reducible rfl)
  rfl
theorem zef (tag : Nat) (xs : List Int) (hn : xs.length < 1000000) : callω L T 25 tag [.isl 1 xs.length (xs.map (.int .u8)), .isl 1 xs.length (xs.map (.int .u8))] [none, none] = some (.bool true, [none, none]) := by
 have h0 : ((xs.length : Int) == (xs.length : Int)) = true := beq_self_eq_true _
 rw [za5 (show T 25 = some (.code a25) from rfl) rfl rfl]
 (have fA := @h0; refine gox ?_; clear fA)
 refine zcr (fun k nx => ⟨[(0, .isl 1 xs.length (xs.map (.int .u8))), (1, .isl 1 xs.length (xs.map (.int .u8))), (5, .int .i64 k)], [], nx, tag⟩) xs.length _ ?_ ?_ 0 _ (by omega)
 ·intro k nx hk
  have hka : (k : Int) < (xs.length : Int) := by omega
  have gk : (xs.map (AV.int .u8))[k]? = some (.int .u8 xs[k]) := by simp [hk]
  have h1 : (xs[k] == xs[k]) = true := beq_self_eq_true _
  generalize xs[k] = c at gk h1
  refine ⟨nx, ?_⟩
  (have fA := @gk; refine gox ?_; clear fA)
  refine zaa ?_ rfl rfl
  simp [zah hk (by omega)]
 ·intro nx
  (refine gox ?_)
  (refine finx ?_; try with_reducible rfl)
  rfl
end
section
attribute [local simp] Cell.flen Cell.rd Cell.put Cell.pute Cell.zero Cell.enc
def bk : Cell := ⟨32, 7, 0, false, false, false, false, false, 0, 0⟩
def mixF (f g : Nat → Cell) (n k : Nat) : List Cell := (List.range n).map fun j => if j < k then f j else g j
theorem zg6 (f g : Nat → Cell) (n k : Nat) : (mixF f g n k).length = n := by simp [mixF]
theorem mixF_zero (f g : Nat → Cell) (n : Nat) : mixF f g n 0 = (List.range n).map g := by
 apply List.ext_getElem <;> simp [mixF]
theorem znr (f g : Nat → Cell) (n : Nat) : mixF f g n n = (List.range n).map f := by
 apply List.ext_getElem
 ·simp [mixF]
 ·intro i h1 h2
  simp [mixF] at h1 ⊢
  intro h; omega
theorem mixF_set (f g : Nat → Cell) (n k : Nat) : (mixF f g n k).set k (f k) = mixF f g n (k + 1) := by
 apply List.ext_getElem
 ·simp [mixF]
 ·intro i h1 h2
  rw [List.getElem_set]
  by_cases e : k = i
  ·subst e; simp [mixF]
  ·simp only [e, if_false, mixF, List.getElem_map, List.getElem_range]
   by_cases h : i < k
   ·rw [if_pos h, if_pos (by omega)]
   ·rw [if_neg h, if_neg (by omega)]
theorem zp6 (f g : Nat → Cell) (n k i : Nat) (h : i < (mixF f g n k).length) : (mixF f g n k)[i] = if i < k then f i else g i := by simp [mixF]
theorem zmq (f : Nat → Cell) (n : Nat) : mixF f (fun _ => Cell.none) n 0 = List.replicate n Cell.none := by
 rw [mixF_zero]; apply List.ext_getElem <;> simp
theorem cput {g l : List Cell} {r : Nat} (hl : l.length = 40) (h : r * 40 + 40 ≤ g.length) : setR (flat Cell.enc g) (r * 400) (flat Cell.enc l) = flat Cell.enc (g.take (r * 40) ++ (l ++ g.drop (r * 40 + 40))) := by
 unfold setR
 have e1 : (flat Cell.enc g).take (r * 400) = flat Cell.enc (g.take (r * 40)) := by rw [show r * 400 = r * 40 * 10 by omega, zge Cell.len]
 have e2 : (flat Cell.enc g).drop (r * 400 + (flat Cell.enc l).length) = flat Cell.enc (g.drop (r * 40 + 40)) := by
  rw [Cell.flen, hl, show r * 400 + 40 * 10 = (r * 40 + 40) * 10 by omega, zdg Cell.len]
 rw [e1, e2, zhd, zhd, List.append_assoc]
theorem cget {g : List Cell} {r : Nat} : ((flat Cell.enc g).drop (r * 400)).take 400 = flat Cell.enc ((g.drop (r * 40)).take 40) := by
 rw [show r * 400 = r * 40 * 10 by omega, show 400 = 40 * 10 from rfl, zdg Cell.len, zge Cell.len]
theorem mixF_row (f g : Nat → Cell) {r : Nat} (hr : r < 25) : (mixF f g 1000 (r * 40)).take (r * 40) ++ ((List.range 40).map (fun c => f (r * 40 + c)) ++ (mixF f g 1000 (r * 40)).drop (r * 40 + 40)) = mixF f g 1000 (r * 40 + 40) := by
 have l0 := zg6 f g 1000 (r * 40)
 have lt : ((mixF f g 1000 (r * 40)).take (r * 40)).length = r * 40 := by rw [List.length_take, l0]; omega
 apply List.ext_getElem
 ·simp [l0, zg6]; omega
 ·intro i h1 h2
  rw [zp6]
  rw [zg6] at h2
  by_cases a : i < r * 40
  ·rw [List.getElem_append_left (by omega), List.getElem_take, zp6, if_pos a, if_pos (by omega)]
  ·rw [List.getElem_append_right (by omega)]
   by_cases b : i < r * 40 + 40
   ·rw [List.getElem_append_left (by simp; omega), if_pos b]
    simp only [List.getElem_map, List.getElem_range, lt]
    congr 1
    omega
   ·rw [List.getElem_append_right (by simp; omega), if_neg b]
    simp only [List.length_map, List.length_range, lt, List.getElem_drop]
    rw [zp6, if_neg (by omega)]
    congr 1
    omega
theorem zgrid : repl 25 (repl 40 [AV.int IntKind.i64 0, AV.int IntKind.i64 0, AV.int IntKind.i64 0, AV.bool false, AV.bool false, AV.bool false, AV.bool false, AV.bool false, AV.int IntKind.i64 0, AV.int IntKind.i64 0]) = flat Cell.enc (List.replicate 1000 Cell.none) := by
 rw [← Cell.zero 1000]
 simp [repl]
theorem t_blank (tag : Nat) : callω L T 110 tag [] [] = some (.agg bk.enc, []) := by
 rw [za5 (show T 110 = some (.code a110) from rfl) rfl rfl]
 (refine gox ?_)
 (refine finx ?_; try with_reducible rfl)
 try rfl
theorem t_rrow (tag : Nat) : callω L T 111 tag [] [] = some (.agg (flat Cell.enc (List.replicate 40 bk)), []) := by
 rw [za5 (show T 111 = some (.code a111) from rfl) rfl rfl]
 have tb := t_blank (tag + 1)
 (refine gox ?_)
 refine Eq.trans (zaa (env' := [(0, .ref 0 (tag, 1) 0), (1, .ref 1 (tag, 1 + 1) 0), (3, .int .i64 ((0 : Nat) : Int))]) (heap' := [(0, ⟨(tag, 1), flat Cell.enc (List.replicate 40 Cell.none)⟩), (1, ⟨(tag, 1 + 1), flat Cell.enc (mixF (fun _ => bk) (fun _ => Cell.none) 40 0)⟩)]) rfl (by rw [zmq, ← Cell.zero]) rfl) ?_
 have lz : (flat Cell.enc (List.replicate 40 Cell.none)).length = 400 := by rw [Cell.flen]; simp
 generalize flat Cell.enc (List.replicate 40 Cell.none) = z0 at *
 refine zf7 (fun k => ⟨[(0, .ref 0 (tag, 1) 0), (1, .ref 1 (tag, 1 + 1) 0), (3, .int .i64 k)], [(0, ⟨(tag, 1), z0⟩), (1, ⟨(tag, 1 + 1), flat Cell.enc (mixF (fun _ => bk) (fun _ => Cell.none) 40 k)⟩)], 1 + 1 + 1, tag⟩) 40 _ ?_ ?_ 0 (by omega)
 ·intro k hk
  have lm := zg6 (fun _ => bk) (fun _ => Cell.none) 40 k
  have hs := Cell.pute (xs := mixF (fun _ => bk) (fun _ => Cell.none) 40 k) (i := k) (y := bk) (by omega)
  rw [show (mixF (fun _ => bk) (fun _ => Cell.none) 40 k).set k bk = _ from mixF_set (fun _ => bk) (fun _ => Cell.none) 40 k] at hs
  have l1 : (flat Cell.enc (mixF (fun _ => bk) (fun _ => Cell.none) 40 k)).length = 400 := by rw [Cell.flen, lm]
  generalize flat Cell.enc (mixF (fun _ => bk) (fun _ => Cell.none) 40 (k + 1)) = c2 at *
  generalize flat Cell.enc (mixF (fun _ => bk) (fun _ => Cell.none) 40 k) = c1 at *
  (have fA := aI @l1 @hs; have c1 := tb; refine gox ?_; clear fA c1)
  refine zaa ?_ ?_ rfl
  ·simp [zah hk (by omega)]
  ·first | rfl | rw [← hs]; rfl
 ·rw [znr, show (List.range 40).map (fun _ => bk) = List.replicate 40 bk from rfl]
  have l2 : (flat Cell.enc (List.replicate 40 bk)).length = 400 := by rw [Cell.flen]; simp
  have tl : (flat Cell.enc (List.replicate 40 bk)).take 400 = flat Cell.enc (List.replicate 40 bk) := List.take_of_length_le (by omega)
  have hp := Cell.pl (List.replicate 40 bk)
  generalize flat Cell.enc (List.replicate 40 bk) = c1 at *
  have sa : setR z0 0 c1 = c1 := zbn (by omega)
  (have fA := aI @l2 (aI @tl (aI @sa @lz)); refine gox ?_; clear fA)
  (have fA := aI @l2 (aI @tl (aI @hp (aI @sa @lz))); refine finx ?_; clear fA; try with_reducible rfl)
theorem t_Empty (tag : Nat) : callω L T 58 tag [] [] = some (.agg (flat Cell.enc (List.replicate 1000 bk)), []) := by
 rw [za5 (show T 58 = some (.code a58) from rfl) rfl rfl]
 have tb := t_rrow (tag + 1)
 (refine gox ?_)
 refine Eq.trans (zaa (env' := [(0, .ref 0 (tag, 1) 0), (1, .ref 1 (tag, 1 + 1) 0), (3, .int .i64 ((0 : Nat) : Int))]) (heap' := [(0, ⟨(tag, 1), flat Cell.enc (List.replicate 1000 Cell.none)⟩), (1, ⟨(tag, 1 + 1), flat Cell.enc (mixF (fun _ => bk) (fun _ => Cell.none) 1000 (0 * 40))⟩)]) rfl (by rw [Nat.zero_mul, zmq, zgrid]) rfl) ?_
 have lz : (flat Cell.enc (List.replicate 1000 Cell.none)).length = 10000 := by rw [Cell.flen]; simp
 generalize flat Cell.enc (List.replicate 1000 Cell.none) = z0 at *
 refine zf7 (fun k => ⟨[(0, .ref 0 (tag, 1) 0), (1, .ref 1 (tag, 1 + 1) 0), (3, .int .i64 k)], [(0, ⟨(tag, 1), z0⟩), (1, ⟨(tag, 1 + 1), flat Cell.enc (mixF (fun _ => bk) (fun _ => Cell.none) 1000 (k * 40))⟩)], 1 + 1 + 1, tag⟩) 25 _ ?_ ?_ 0 (by omega)
 ·intro k hk
  have lm := zg6 (fun _ => bk) (fun _ => Cell.none) 1000 (k * 40)
  have hs := cput (g := mixF (fun _ => bk) (fun _ => Cell.none) 1000 (k * 40)) (l := List.replicate 40 bk) (r := k) (by simp) (by omega)
  rw [show List.replicate 40 bk = (List.range 40).map (fun c => (fun _ => bk) (k * 40 + c)) from rfl, mixF_row (fun _ => bk) (fun _ => Cell.none) hk, show k * 40 + 40 = (k + 1) * 40 by omega, show (List.range 40).map (fun c => (fun _ => bk) (k * 40 + c)) = List.replicate 40 bk from rfl] at hs
  have l1 : (flat Cell.enc (mixF (fun _ => bk) (fun _ => Cell.none) 1000 (k * 40))).length = 10000 := by rw [Cell.flen, lm]
  have l2 : (flat Cell.enc (List.replicate 40 bk)).length = 400 := by rw [Cell.flen]; simp
  generalize flat Cell.enc (mixF (fun _ => bk) (fun _ => Cell.none) 1000 ((k + 1) * 40)) = c2 at *
  generalize flat Cell.enc (mixF (fun _ => bk) (fun _ => Cell.none) 1000 (k * 40)) = c1 at *
  generalize flat Cell.enc (List.replicate 40 bk) = c3 at *
  (have fA := aI @l1 (aI @l2 @hs); have c1 := tb; refine gox ?_; clear fA c1)
  refine zaa ?_ ?_ rfl
  ·simp [zah hk (by omega)]
  ·first | rfl | rw [← hs]; rfl
 ·rw [show 25 * 40 = 1000 from rfl, znr, show (List.range 1000).map (fun _ => bk) = List.replicate 1000 bk from by
   apply List.ext_getElem
   ·simp
   ·intro i h1 h2; rw [List.getElem_map, List.getElem_replicate]]
  have l2 : (flat Cell.enc (List.replicate 1000 bk)).length = 10000 := by rw [Cell.flen]; simp
  have tl : (flat Cell.enc (List.replicate 1000 bk)).take 10000 = flat Cell.enc (List.replicate 1000 bk) := List.take_of_length_le (by omega)
  have hp := Cell.pl (List.replicate 1000 bk)
  generalize flat Cell.enc (List.replicate 1000 bk) = c1 at *
  have sa : setR z0 0 c1 = c1 := zbn (by omega)
  (have fA := aI @l2 (aI @tl (aI @sa @lz)); refine gox ?_; clear fA)
  (have fA := aI @l2 (aI @tl (aI @hp (aI @sa @lz))); refine finx ?_; clear fA; try with_reducible rfl)
end
section
attribute [local simp] Cell.flen Cell.rd Cell.put Cell.pute Cell.zero Cell.enc
theorem zeq (tag : Nat) (a : List Cell) (ha : a.length = 1000) : callω L T 24 tag [.agg (flat Cell.enc a), .agg (flat Cell.enc a)] [none, none] = some (.bool true, [none, none]) := by
 rw [za5 (show T 24 = some (.code a24) from rfl) rfl rfl]
 have hl : (flat Cell.enc a).length = 10000 := by rw [Cell.flen]; omega
 have ta : (flat Cell.enc a).take 10000 = flat Cell.enc a := List.take_of_length_le (by omega)
 (have fA := aI @ta @hl; refine gox ?_; clear fA)
 refine zcr (fun k nx => ⟨[(2, .ref 2 (tag, 1) 0), (3, .ref 3 (tag, 1 + 1) 0), (5, .int .i64 k)], [(2, ⟨(tag, 1), flat Cell.enc a⟩), (3, ⟨(tag, 1 + 1), flat Cell.enc a⟩)], nx, tag⟩) 25 _ ?_ ?_ 0 _ (by omega)
 ·intro k nx hk
  have hk2 : (k : Int) < 25 := by omega
  have hr := cget (g := a) (r := k)
  have hrl : ((a.drop (k * 40)).take 40).length = 40 := by simp; omega
  have hs := fun t => t_SameRow t ((a.drop (k * 40)).take 40) hrl
  have hb2 : k * 400 + 400 ≤ 10000 := by omega
  generalize (a.drop (k * 40)).take 40 = w at hr hs
  generalize flat Cell.enc a = F at hl ta hr
  refine ⟨nx, ?_⟩
  (have fA := aI @hl @hr; have c1 := fun x1 => hs x1; refine gox ?_; clear fA c1)
  refine zaa ?_ rfl rfl
  simp [zah hk (by omega)]
 ·intro nx
  (refine gox ?_)
  (refine finx ?_; try with_reducible rfl)
  rfl
end
section
def macR : List AV := z183.drop 1
theorem z183_eq : z183 = .nilp :: macR := rfl
theorem macR_len : macR.length = 9740 := by kernel_rfl
theorem zpk : macR.all AV.plain = true := by kernel_rfl
theorem macR_began : macR[2159]? = some (.bool false) := by kernel_rfl
theorem zdr : shutL macR = true := zd9 zpk
theorem zdt (t : Nat) : freeL t macR = true := zdu t zpk
def pgZ : List AV := z112
def recR : List AV := pgZ ++ [.bool false, .int .i64 0]
theorem z114_eq : z114 = .nilp :: .int .i64 0 :: .int .i64 0 :: .int .i64 0 :: .nsl :: .nsl :: .bool false :: .bool false :: .bool false :: .bool false :: recR := by kernel_rfl
theorem recR_len : recR.length = 1063 := by kernel_rfl
theorem zp1 : recR.all AV.plain = true := by kernel_rfl
theorem zk8 : recR[1061]? = some (.bool false) := by kernel_rfl
theorem zem : shutL recR = true := zd9 zp1
theorem zes (t : Nat) : freeL t recR = true := zdu t zp1
attribute [local irreducible] macR recR pgZ z183 z114 z112
theorem t_stNew (tag : Nat) (most : Int) (h1 : 1 ≤ most) (h2 : most ≤ 800) :
  callH L T 91 tag [.int .i64 most] [] = some (.tup [.ref 400000 (tag, 0) 0, .nilI], [hb 400000 [.int .i64 most, .mref 400001500001 (tag, 0), .msl 400001000002 (tag, 0) 3 0 0, .int .i64 0, .int .i64 0, .int .i64 0, .bool false], hb 400001500001 [.mapd [] []], hb 400001000002 []]) := by
 refine (za8 (show T (91 + 1000000000) = some (.hcode a91) from rfl) rfl (by simp only [argEnv, Nat.reduceAdd]; apply Eq.refl) (by simp only [hb, hHeap]; apply Eq.refl)).trans ?_
 (refine gox ?_)
 (refine finhx ?_; try with_reducible rfl)
 all_goals first | rfl
def stMem (s mp o tag : Nat) (most : Int) : List (Option (List AV)) := [hb s [.int .i64 most, .mref mp (tag, 0), .msl o (tag, 0) 3 0 0, .int .i64 0, .int .i64 0, .int .i64 0, .bool false], hb mp [.mapd [] []], hb o []]
def recC (k tag : Nat) : List AV := .ref k (tag, 0) 0 :: .int .i64 1 :: .int .i64 0 :: .int .i64 16255 :: .nsl :: .nsl :: .bool false :: .bool false :: .bool false :: .bool false :: recR
theorem t_acNew (tag : Nat) (most : Int) (h1 : 1 ≤ most) (h2 : most ≤ 800) :
  callH L T 41 tag [.int .i64 most] [] = some (.tup [.ref 400000 (tag, 0) 0, .nilI], hb 400000 (.ref 400001000000 (tag, 0) 0 :: macR) :: stMem 400001000000 400001000001500001 400001000001000002 tag most) := by
 have l1 := zdr
 have f1 := zdt
 refine (za8 (show T (41 + 1000000000) = some (.hcode a41) from rfl) rfl (by simp only [argEnv, Nat.reduceAdd]; apply Eq.refl) (by simp only [hb, hHeap]; apply Eq.refl)).trans ?_
 (have fA := aI @z183_eq (aI @l1 @f1); have c1 := fun x1 => t_stNew x1 most h1 h2; refine gox ?_; clear fA c1)
 (have fA := aI @l1 @f1; refine finhx ?_; clear fA; try with_reducible rfl)
 all_goals first | rfl
theorem t_rStart (tag : Nat) : callω L T 42 tag [] [] = some (.agg [.int .i64 1, .int .i64 0, .int .i64 16255, .nsl, .nsl, .bool false, .bool false, .bool false, .bool false], []) := by
 rw [za5 (show T 42 = some (.code a42) from rfl) rfl rfl]
 (refine gox ?_)
 (refine finx ?_; try with_reducible rfl)
 all_goals first | rfl
theorem t_teNew (tag : Nat) (most : Int) (h1 : 1 ≤ most) (h2 : most ≤ 800) :
  callH L T 12 tag [.int .i64 most] [] = some (.tup [.ref 400000 (tag, 0) 0, .nilI], hb 400000 (recC 400001000000 tag) :: hb 400001000000 (.ref 400001000001000000 (tag, 0) 0 :: macR) :: stMem 400001000001000000 400001000001000001500001 400001000001000001000002 tag most) := by
 have l1 := zdr
 have f1 := zdt
 have l2 := zem
 have f2 := zes
 have cA := fun t => t_acNew t most h1 h2
 simp only [stMem] at cA
 refine (za8 (show T (12 + 1000000000) = some (.hcode a12) from rfl) rfl (by simp only [argEnv, Nat.reduceAdd]; apply Eq.refl) (by simp only [hb, hHeap]; apply Eq.refl)).trans ?_
 (have fA := aI @z114_eq (aI @l1 (aI @f1 (aI @l2 @f2))); have c1 := fun x1 => cA x1; have c2 := fun x1 => t_rStart x1; refine gox ?_; clear fA c1 c2)
 (have fA := aI @l1 (aI @f1 (aI @l2 @f2)); refine finhx ?_; clear fA; try with_reducible rfl)
 all_goals first | rfl
theorem t_viNew (tag : Nat) :
  callH L T 19 tag [.int .i64 3, .int .i64 50] [] = some (.tup [.ref 400000 (tag, 0) 0, .nilI], hb 400000 [.ref 400001000000 (tag, 0) 0, .ref 400001000001 (tag, 0) 0, .bool false] :: hb 400001000000 (recC 400001000001000000 tag) :: hb 400001000001 ((mtNew 50).cells 400001000002000000 tag) :: hb 400001000001000000 (.ref 400001000001000001000000 (tag, 0) 0 :: macR) :: (mtNew 50).rest 400001000002000000 ++ stMem 400001000001000001000000 400001000001000001000001500001 400001000001000001000001000002 tag 3) := by
 have l1 := zdr
 have f1 := zdt
 have l2 := zem
 have f2 := zes
 have cA := fun t => t_teNew t 3 (by decide) (by decide)
 have cM := fun t => t_mNew t 50 (by decide) (by decide)
 have l3 := Scr.shut sNew zbo
 have f3 := Scr.free sNew zbo
 simp only [stMem, recC] at cA
 unfold mtNew at cM ⊢
 generalize sNew = scr at cM l3 f3 ⊢
 generalize PS.start = p at cM ⊢
 obtain ⟨m, proll, lower, ext, c0, speed, echo⟩ := p
 simp only [Mt.mem, Mt.rest, Mt.cells, u8L, List.map_nil, List.length_nil, Nat.reduceAdd] at cM ⊢
 generalize scr.enc = s at cM l3 f3 ⊢
 refine (za8 (show T (19 + 1000000000) = some (.hcode a19) from rfl) rfl (by simp only [argEnv, Nat.reduceAdd]; apply Eq.refl) (by simp only [hb, hHeap]; apply Eq.refl)).trans ?_
 (have fA := aI @l1 (aI @f1 (aI @l2 (aI @f2 (aI @l3 @f3)))); have c1 := fun x1 => cA x1; have c2 := fun x1 => cM x1; refine gox ?_; clear fA c1 c2)
 (have fA := aI @l1 (aI @f1 (aI @l2 (aI @f2 (aI @l3 @f3)))); refine finhx ?_; clear fA; try with_reducible rfl)
 all_goals first | rfl
end
section
attribute [local simp] Cell.flen Cell.rd Cell.put Cell.pute Cell.zero Cell.enc
def sAt (s : ByteArray) (k : Nat) : Int := (((s[k]?).getD 0).toNat : Int)
theorem sAt_get {s : ByteArray} {k : Nat} (h : k < s.size) : ∃ b : UInt8, s[k]? = some b ∧ (b.toNat : Int) = sAt s k := by
 refine ⟨s[k], getElem?_pos s k h, ?_⟩
 unfold sAt
 rw [getElem?_pos s k h]; rfl
def wch (x : Int) : Int := if 32 ≤ x ∧ x ≤ 126 then x else 32
def wcell (s : ByteArray) (j : Nat) : Cell := ⟨wch (sAt s j), 7, 0, false, false, false, false, false, 0, 0⟩
def wordG (g : List Cell) (s : ByteArray) (pos k : Nat) : List Cell := (List.range g.length).map fun i => if pos ≤ i ∧ i < pos + k then wcell s (i - pos) else g.getD i Cell.none
theorem zd6 (g : List Cell) (s : ByteArray) (pos k : Nat) : (wordG g s pos k).length = g.length := by simp [wordG]
theorem zg8 (g : List Cell) (s : ByteArray) (pos k : Nat) {i : Nat} (hi9 : i < (wordG g s pos k).length) : (wordG g s pos k)[i] = if pos ≤ i ∧ i < pos + k then wcell s (i - pos) else g.getD i Cell.none := by simp [wordG]
theorem wordG_zero (g : List Cell) (s : ByteArray) (pos : Nat) : wordG g s pos 0 = g := by
 apply List.ext_getElem
 ·exact zd6 ..
 ·intro i h1 h2
  rw [zg8, if_neg (by omega), List.getD_eq_getElem?_getD, List.getElem?_eq_getElem h2]; rfl
theorem wordG_set {g : List Cell} {s : ByteArray} {pos k : Nat} (hi9 : pos + k < g.length) : (wordG g s pos k).set (pos + k) (wcell s k) = wordG g s pos (k + 1) := by
 apply List.ext_getElem
 ·simp [zd6]
 ·intro i h1 h2
  rw [List.getElem_set]
  by_cases e : pos + k = i
  ·rw [if_pos e, zg8, if_pos (by omega), show i - pos = k by omega]
  ·rw [if_neg e, zg8, zg8]
   by_cases q : pos ≤ i ∧ i < pos + k
   ·rw [if_pos q, if_pos (by omega)]
   ·rw [if_neg q, if_neg (by omega)]
theorem zg_len : (repl 25 (repl 40 [AV.int IntKind.i64 0, AV.int IntKind.i64 0, AV.int IntKind.i64 0, AV.bool false, AV.bool false, AV.bool false, AV.bool false, AV.bool false, AV.int IntKind.i64 0, AV.int IntKind.i64 0])).length = 1000 * 10 := by rw [zgrid, Cell.flen]; simp
theorem zg_all {G : List AV} (h : G.length = 1000 * 10) : setR (repl 25 (repl 40 [AV.int IntKind.i64 0, AV.int IntKind.i64 0, AV.int IntKind.i64 0, AV.bool false, AV.bool false, AV.bool false, AV.bool false, AV.bool false, AV.int IntKind.i64 0, AV.int IntKind.i64 0])) 0 G = G := zbn (by rw [h, zg_len])
attribute [local irreducible] wordG sAt
theorem t_Words (tag : Nat) (g : List Cell) (hl : g.length = 1000) (r c : Nat) (hr : r < 25) (hc : c < 40) (s : ByteArray) (hs : s.size < 1000000) :
  callω L T 57 tag [.agg (flat Cell.enc g), .int .i64 r, .int .i64 c, .str s] [none, none, none, none] = some (.agg (flat Cell.enc (wordG g s (r * 40 + c) (min s.size (40 - c)))), [none, none, none, none]) := by
 rw [za5 (show T 57 = some (.code a57) from rfl) rfl rfl]
 have tb := t_blank (tag + 1)
 have lg := Cell.flen g
 rw [hl] at lg
 have tg : (flat Cell.enc g).take 10000 = flat Cell.enc g := List.take_of_length_le (by omega)
 (have fA := aI @lg @tg; have c1 := tb; refine gox ?_; clear fA c1)
 obtain ⟨n, hn⟩ : ∃ n, min s.size (40 - c) = n := ⟨_, rfl⟩
 rw [hn]
 refine Eq.trans (zaa (heap' := [(4, ⟨(tag, 1), flat Cell.enc (wordG g s (r * 40 + c) 0)⟩), (8, ⟨(tag, 1 + 1), repl 25 (repl 40 [AV.int IntKind.i64 0, AV.int IntKind.i64 0, AV.int IntKind.i64 0, AV.bool false, AV.bool false, AV.bool false, AV.bool false, AV.bool false, AV.int IntKind.i64 0, AV.int IntKind.i64 0])⟩)]) rfl (by rw [wordG_zero]) rfl) ?_
 clear lg tg
 refine zcr (fun k nz => ⟨[(1, .int .i64 r), (2, .int .i64 c), (3, .str s), (4, .ref 4 (tag, 1) 0), (8, .ref 8 (tag, 1 + 1) 0), (9, .int .i64 k)], [(4, ⟨(tag, 1), flat Cell.enc (wordG g s (r * 40 + c) k)⟩), (8, ⟨(tag, 1 + 1), repl 25 (repl 40 [AV.int IntKind.i64 0, AV.int IntKind.i64 0, AV.int IntKind.i64 0, AV.bool false, AV.bool false, AV.bool false, AV.bool false, AV.bool false, AV.int IntKind.i64 0, AV.int IntKind.i64 0])⟩)], nz, tag⟩) n _ ?_ ?_ 0 _ (by omega)
 ·intro k nz hk
  refine ⟨nz + 1, ?_⟩
  obtain ⟨b, gb, hx⟩ := sAt_get (s := s) (k := k) (by omega)
  have hm := Cell.pute (xs := wordG g s (r * 40 + c) k) (i := r * 40 + c + k) (y := wcell s k) (by rw [zd6]; omega)
  rw [wordG_set (by omega), show (r * 40 + c + k) * 10 = r * 400 + (c + k) * 10 by omega] at hm
  unfold wcell at hm
  rw [← hx] at hm
  have l1 := Cell.flen (wordG g s (r * 40 + c) k)
  rw [zd6, hl] at l1
  have wc : IntKind.i64.wrap ((c : Int) + (k : Int)) = ((c + k : Nat) : Int) := w_i64 (by omega) (by omega)
  have hks : (k : Int) < (s.size : Int) := by omega
  have hck : IntKind.i64.wrap ((c : Int) + (k : Int)) < 40 := by rw [wc]; omega
  generalize flat Cell.enc (wordG g s (r * 40 + c) (k + 1)) = c2 at *
  generalize flat Cell.enc (wordG g s (r * 40 + c) k) = c1 at *
  have hw : IntKind.i64.wrap (b.toNat : Int) = (b.toNat : Int) := w_i64 (by omega) (by have := b.toNat_lt; omega)
  by_cases h1 : (32 : Int) ≤ (b.toNat : Int)
  ·by_cases h2 : (b.toNat : Int) ≤ 126
   ·rw [show wch (b.toNat : Int) = (b.toNat : Int) from if_pos ⟨h1, h2⟩] at hm
    simp only [Cell.enc] at hm
    (have fA := aI @gb (aI @l1 (aI @wc (aI @hw @Nat.mul_one))); have c1 := tb; refine gox ?_; clear fA c1)
    refine zaa ?_ (by rw [← hm]; rfl) rfl
    simp [zah hk (by omega)]
   ·rw [show wch (b.toNat : Int) = 32 from if_neg (fun q => h2 q.2)] at hm
    simp only [Cell.enc] at hm
    (have fA := aI @gb (aI @l1 (aI @wc (aI @hw @Nat.mul_one))); have c1 := tb; refine gox ?_; clear fA c1)
    refine zaa ?_ (by rw [← hm]; rfl) rfl
    simp [zah hk (by omega)]
  ·rw [show wch (b.toNat : Int) = 32 from if_neg (fun q => h1 q.1)] at hm
   simp only [Cell.enc] at hm
   (have fA := aI @gb (aI @l1 (aI @wc (aI @hw @Nat.mul_one))); have c1 := tb; refine gox ?_; clear fA c1)
   refine zaa ?_ (by rw [← hm]; rfl) rfl
   simp [zah hk (by omega)]
 ·intro nz
  have l1 := Cell.flen (wordG g s (r * 40 + c) n)
  rw [zd6, hl] at l1
  have sG := zg_all l1
  have tg : (flat Cell.enc (wordG g s (r * 40 + c) n)).take 10000 = flat Cell.enc (wordG g s (r * 40 + c) n) := List.take_of_length_le (by omega)
  replace l1 : (flat Cell.enc (wordG g s (r * 40 + c) n)).length = 10000 := l1
  have zl : (repl 25 (repl 40 [AV.int IntKind.i64 0, AV.int IntKind.i64 0, AV.int IntKind.i64 0, AV.bool false, AV.bool false, AV.bool false, AV.bool false, AV.bool false, AV.int IntKind.i64 0, AV.int IntKind.i64 0])).length = 10000 := zg_len
  have hp : (flat Cell.enc (wordG g s (r * 40 + c) n)).all AV.plain = true := Cell.pl _
  generalize flat Cell.enc (wordG g s (r * 40 + c) n) = G at *
  have wc : IntKind.i64.wrap ((c : Int) + (n : Int)) = ((c + n : Nat) : Int) := w_i64 (by omega) (by omega)
  by_cases hs1 : n < s.size
  ·have hks : (n : Int) < (s.size : Int) := by omega
   have hck : ¬ IntKind.i64.wrap ((c : Int) + (n : Int)) < 40 := by rw [wc]; omega
   (have fA := aI @l1 (aI @wc (aI @tg (aI @sG @zl))); refine gox ?_; clear fA)
   (have fA := aI @l1 (aI @tg (aI @sG (aI @zl @hp))); refine finx ?_; clear fA; try with_reducible rfl)
   try rw [sG, tg]
  ·have hks : ¬ (n : Int) < (s.size : Int) := by omega
   (have fA := aI @l1 (aI @wc (aI @tg (aI @sG @zl))); refine gox ?_; clear fA)
   (have fA := aI @l1 (aI @tg (aI @sG (aI @zl @hp))); refine finx ?_; clear fA; try with_reducible rfl)
   try rw [sG, tg]
end
section
attribute [local simp] Cell.flen Cell.rd Cell.put Cell.pute Cell.zero Cell.enc
theorem t_pMag1 (tag : Nat) : callω L T 108 tag [.int .i64 1] [none] = some (.bool true, [none]) := by
 rw [za5 (show T 108 = some (.code a108) from rfl) rfl rfl]
 (refine gox ?_)
 (refine finx ?_; try with_reducible rfl)
 all_goals first | rfl
theorem t_Last0 (tag : Nat) (x : AV) : callω L T 56 tag [.ipt (x :: macR), .int .i64 1] [none, none] = some (.tup [.agg [.int .i64 0, .int .i64 0, .int .i64 0, .bool false, .bool false, .bool false, .bool false, .bool false, .bool false, .bool false, .bool false, .bool false, .bool false, .bool false, .int .i64 0], .fsl 1 0 [], .bool false], [none, none]) := by
 have g := macR_began
 have g2 : (x :: macR)[2160]? = some (.bool false) := g
 have hl := macR_len
 rw [za5 (show T 56 = some (.code a56) from rfl) rfl rfl]
 (have fA := aI @g (aI @g2 @hl); have c1 := fun x1 => t_pMag1 x1; refine gox ?_; clear fA c1)
 (have fA := aI @g (aI @g2 @hl); refine finx ?_; clear fA; try with_reducible rfl)
 all_goals first | rfl
theorem t_pText0 (tag : Nat) : callω L T 113 tag [.isl 1 0 []] [none] = some (.tup [.fsl 1 0 [], .fsl 1 0 []], [none]) := by
 rw [za5 (show T 113 = some (.code a113) from rfl) rfl rfl]
 (refine gox ?_)
 refine Eq.trans zad ?_
 (refine gox ?_)
 (refine finx ?_; try with_reducible rfl)
 all_goals first | rfl
theorem t_text0 (tag : Nat) : callω L T 60 tag [.isl 1 0 []] [none] = some (.str ByteArray.empty, [none]) := by
 rw [za5 (show T 60 = some (.code a60) from rfl) rfl rfl]
 (have c1 := fun x1 => t_pText0 x1; refine gox ?_; clear c1)
 refine Eq.trans zad ?_
 (refine gox ?_)
 (refine finx ?_; try with_reducible rfl)
 all_goals first | rfl
def s100 : ByteArray := ⟨#[80, 49, 48, 48, 32, 32, 32, 32]⟩
theorem t_rLine0 (tag : Nat) : callω L T 59 tag [.agg [.int .i64 1, .int .i64 0, .int .i64 16255, .nsl, .nsl, .bool false, .bool false, .bool false, .bool false]] [none] = some (.str s100, [none]) := by
 rw [za5 (show T 59 = some (.code a59) from rfl) rfl rfl]
 (refine gox ?_)
 (refine finx ?_; try with_reducible rfl)
 kernel_rfl
theorem t_stKeys0 (tag : Nat) (most : Int) : callω L T 116 tag [.ipt [.int .i64 most, .imp [] [], .isl 3 0 [], .int .i64 0, .int .i64 0, .int .i64 0, .bool false]] [none] = some (.fsl 3 0 [], [none]) := by
 have cC : ∀ t, callω L T 173 t [.isl 3 0 []] [none] = some (.fsl 3 0 [], [none]) := fun t =>
  (zn3 (L := L) (T := T) (show T 173 = some (.law (cloneLaw 3 24)) from rfl) (tag := t)).trans rfl
 rw [za5 (show T 116 = some (.code a116) from rfl) rfl rfl]
 (have c1 := fun x1 => cC x1; refine gox ?_; clear c1)
 (refine finx ?_; try with_reducible rfl)
 all_goals first | rfl
theorem t_acPages0 (tag : Nat) (most : Int) : callω L T 62 tag [.ipt (.ipt [.int .i64 most, .imp [] [], .isl 3 0 [], .int .i64 0, .int .i64 0, .int .i64 0, .bool false] :: macR)] [none] = some (.fsl 3 0 [], [none]) := by
 rw [za5 (show T 62 = some (.code a62) from rfl) rfl rfl]
 (have c1 := fun x1 => t_stKeys0 x1 most; refine gox ?_; clear c1)
 (refine finx ?_; try with_reducible rfl)
 all_goals first | rfl
def recV (most : Int) : List AV := .ipt (.ipt [.int .i64 most, .imp [] [], .isl 3 0 [], .int .i64 0, .int .i64 0, .int .i64 0, .bool false] :: macR) :: .int .i64 1 :: .int .i64 0 :: .int .i64 16255 :: .nsl :: .nsl :: .bool false :: .bool false :: .bool false :: .bool false :: recR
theorem recR_head : List.take 3 recR = [.int .i64 0, .int .i64 0, .int .i64 0] := by kernel_rfl
theorem recR_ticks : recR[1062]? = some (.int .i64 0) := by kernel_rfl
theorem zqa (tag : Nat) (most : Int) : callω L T 17 tag [.ipt (recV most)] [none] = some (.agg [.int .i64 1, .int .i64 0, .int .i64 16255, .bool false, .int .i64 0, .int .i64 0, .int .i64 0, .str s100, .int .i64 0, .int .i64 0], [none]) := by
 have g1 := zk8
 have g2 := recR_head
 have g3 := recR_ticks
 have hl := recR_len
 unfold recV
 rw [za5 (show T 17 = some (.code a17) from rfl) rfl rfl]
 (have fA := aI @g1 (aI @g2 (aI @g3 @hl)); have c1 := fun x1 => t_acPages0 x1 most; have c2 := fun x1 => t_rLine0 x1; refine gox ?_; clear fA c1 c2)
 (have fA := aI @g1 (aI @g2 (aI @g3 @hl)); refine finx ?_; clear fA; try with_reducible rfl)
 all_goals first | rfl
theorem t_teGrid0 (tag : Nat) (most : Int) : ∃ G : List Cell, G.length = 1000 ∧ callω L T 16 tag [.ipt (recV most)] [none] = some (.agg (flat Cell.enc G), [none]) := by
 have g1 := zk8
 have hl := recR_len
 have cW1 := fun t => t_Words t (List.replicate 1000 bk) (by simp) 0 0 (by omega) (by omega) s100 (by decide)
 have h1 : (wordG (List.replicate 1000 bk) s100 (0 * 40 + 0) (min s100.size (40 - 0))).length = 1000 := by rw [zd6]; simp
 generalize wordG (List.replicate 1000 bk) s100 (0 * 40 + 0) (min s100.size (40 - 0)) = G1 at cW1 h1
 have cW2 := fun t => t_Words t G1 h1 0 8 (by omega) (by omega) ByteArray.empty (by decide)
 have h2 : (wordG G1 ByteArray.empty (0 * 40 + 8) (min ByteArray.empty.size (40 - 8))).length = 1000 := by rw [zd6]; exact h1
 generalize wordG G1 ByteArray.empty (0 * 40 + 8) (min ByteArray.empty.size (40 - 8)) = G2 at cW2 h2
 refine ⟨G2, h2, ?_⟩
 have hE := t_Empty
 have e1 : (flat Cell.enc (List.replicate 1000 bk)).length = 10000 := by rw [Cell.flen]; simp
 have p1 := Cell.pl (List.replicate 1000 bk)
 have e2 : (flat Cell.enc G1).length = 10000 := by rw [Cell.flen, h1]
 have p2 := Cell.pl G1
 have e3 : (flat Cell.enc G2).length = 10000 := by rw [Cell.flen, h2]
 have p3 := Cell.pl G2
 have z : repl 25 (repl 40 [AV.int IntKind.i64 0, AV.int IntKind.i64 0, AV.int IntKind.i64 0, AV.bool false, AV.bool false, AV.bool false, AV.bool false, AV.bool false, AV.int IntKind.i64 0, AV.int IntKind.i64 0]) = flat Cell.enc (List.replicate 1000 Cell.none) := by
  rw [zgo]; exact Cell.zero 1000
 have zl : (flat Cell.enc (List.replicate 1000 Cell.none)).length = 10000 := by rw [Cell.flen, List.length_replicate]
 have st2 : setR (flat Cell.enc (List.replicate 1000 Cell.none)) 0 (flat Cell.enc G2) = flat Cell.enc G2 := zbn (by omega)
 have tk : (flat Cell.enc G2).take 10000 = flat Cell.enc G2 := List.take_of_length_le (by omega)
 generalize flat Cell.enc (List.replicate 1000 Cell.none) = Z at z zl st2
 generalize flat Cell.enc (List.replicate 1000 bk) = E at hE cW1 e1 p1
 generalize flat Cell.enc G1 = F1 at cW1 cW2 e2 p2
 generalize flat Cell.enc G2 = F2 at cW2 e3 p3 st2 tk ⊢
 unfold recV
 rw [za5 (show T 16 = some (.code a16) from rfl) rfl rfl]
 (have fA := aI @g1 (aI @hl (aI @z (aI @zl (aI @st2 (aI @e1 (aI @e2 (aI @e3 @tk))))))); have c1 := fun x1 => t_Last0 x1 (.ipt [.int .i64 most, .imp [] [], .isl 3 0 [], .int .i64 0, .int .i64 0, .int .i64 0, .bool false]); have c2 := fun x1 => hE x1; have c3 := fun x1 => t_rLine0 x1; have c4 := fun x1 => cW1 x1; have c5 := fun x1 => cW2 x1; have c6 := fun x1 => t_text0 x1; refine gox ?_; clear fA c1 c2 c3 c4 c5 c6)
 (have fA := aI @g1 (aI @hl (aI @e3 (aI @p3 @tk))); refine finx ?_; clear fA; try with_reducible rfl)
 all_goals first | rfl
end
section
attribute [local simp] Cell.flen Cell.rd Cell.put Cell.pute Cell.zero Cell.enc
theorem z61_eq : z61 = .bool false :: (repl 25 (repl 40 [AV.int IntKind.i64 0, AV.int IntKind.i64 0, AV.int IntKind.i64 0, AV.bool false, AV.bool false, AV.bool false, AV.bool false, AV.bool false, AV.int IntKind.i64 0, AV.int IntKind.i64 0]) ++ [.nsl, .str ByteArray.empty, .int .i64 0, .int .i64 0, .int .i64 0]) := rfl
def shotC (G : List AV) : List AV := .bool false :: (G ++ [.nsl, .str s100, .int .i64 0, .int .i64 0, .int .i64 0])
theorem shotC_put (Z G : List AV) (hZ : Z.length = 10000) (hG : G.length = 10000) : setR (.bool false :: (Z ++ [.nsl, .str ByteArray.empty, .int .i64 0, .int .i64 0, .int .i64 0])) 1 G = .bool false :: (G ++ [.nsl, .str ByteArray.empty, .int .i64 0, .int .i64 0, .int .i64 0]) := by
 rw [zau]
 congr 1
 simp [setR, hG, List.drop_append_of_le_length, hZ]
theorem shotC_str (G : List AV) (s : ByteArray) (hG : G.length = 10000) : setR (.bool false :: (G ++ [.nsl, .str ByteArray.empty, .int .i64 0, .int .i64 0, .int .i64 0])) 10002 [.str s] = .bool false :: (G ++ [.nsl, .str s, .int .i64 0, .int .i64 0, .int .i64 0]) := by
 rw [zau]
 congr 1
 rw [zae 1 (by omega)]
 rfl
attribute [local irreducible] z61
theorem t_Shot0 (tag : Nat) (most : Int) (m : Mt) : ∃ G : List AV, G.length = 10000 ∧ G.all AV.plain = true ∧ callω L T 23 tag [.ipt [.ipt (recV most), .ipt m.vw, .bool false]] [none] = some (.agg (shotC G), [none]) := by
 obtain ⟨G, hG, cG⟩ := t_teGrid0 (tag + 1) most
 have e3 : (flat Cell.enc G).length = 10000 := by rw [Cell.flen, hG]
 have p3 := Cell.pl G
 refine ⟨flat Cell.enc G, e3, p3, ?_⟩
 have cS := zqa (tag + 1) most
 have z := z61_eq
 have e1 : (repl 25 (repl 40 [AV.int IntKind.i64 0, AV.int IntKind.i64 0, AV.int IntKind.i64 0, AV.bool false, AV.bool false, AV.bool false, AV.bool false, AV.bool false, AV.int IntKind.i64 0, AV.int IntKind.i64 0])).length = 10000 := by
  rw [zg_len]
 generalize repl 25 (repl 40 [AV.int IntKind.i64 0, AV.int IntKind.i64 0, AV.int IntKind.i64 0, AV.bool false, AV.bool false, AV.bool false, AV.bool false, AV.bool false, AV.int IntKind.i64 0, AV.int IntKind.i64 0]) = Z at z e1
 generalize flat Cell.enc G = F at cG e3 p3 ⊢
 have q1 := shotC_put Z F e1 e3
 have q2 := shotC_str F s100 e3
 have q3 : setR (.bool false :: (Z ++ [.nsl, .str ByteArray.empty, .int .i64 0, .int .i64 0, .int .i64 0])) 0 (.bool false :: (F ++ [.nsl, .str s100, .int .i64 0, .int .i64 0, .int .i64 0])) = .bool false :: (F ++ [.nsl, .str s100, .int .i64 0, .int .i64 0, .int .i64 0]) := zbn (by simp [e1, e3])
 have q4 : List.take 10006 (.bool false :: (F ++ [.nsl, .str s100, .int .i64 0, .int .i64 0, .int .i64 0])) = .bool false :: (F ++ [.nsl, .str s100, .int .i64 0, .int .i64 0, .int .i64 0]) := List.take_of_length_le (by simp [e3])
 have q5 : (F ++ ([.nsl, .str s100, .int .i64 0, .int .i64 0, .int .i64 0] : List AV)).length = 10005 := by simp [e3]
 have q6 : (Z ++ ([.nsl, .str ByteArray.empty, .int .i64 0, .int .i64 0, .int .i64 0] : List AV)).length = 10005 := by simp [e1]
 have q7 : (F ++ ([.nsl, .str s100, .int .i64 0, .int .i64 0, .int .i64 0] : List AV))[10000]? = some .nsl := zai 0 (by omega)
 have q8 : List.take 10000 (F ++ ([.nsl, .str s100, .int .i64 0, .int .i64 0, .int .i64 0] : List AV)) = F := by rw [List.take_append_of_le_length (by omega), List.take_of_length_le (by omega)]
 have q9 : List.drop 10001 (F ++ ([.nsl, .str s100, .int .i64 0, .int .i64 0, .int .i64 0] : List AV)) = [.str s100, .int .i64 0, .int .i64 0, .int .i64 0] := by rw [List.drop_append, List.drop_eq_nil_of_le (by omega), show 10001 - F.length = 1 from by omega]; rfl
 have p4 : (F ++ ([.nsl, .str s100, .int .i64 0, .int .i64 0, .int .i64 0] : List AV)).all AV.plain = true := by rw [List.all_append, p3]; rfl
 unfold shotC
 rw [za5 (show T 23 = some (.code a23) from rfl) rfl rfl]
 (have fA := aI @z (aI @q1 (aI @q2 (aI @q3 (aI @q4 (aI @q5 (aI @q6 (aI @e1 @e3))))))); have c1 := cG; have c2 := cS; refine gox ?_; clear fA c1 c2)
 (have fA := aI @q4 (aI @q5 (aI @q7 (aI @q8 (aI @q9 (aI @p3 @p4))))); refine finx ?_; clear fA; try with_reducible rfl)
 all_goals first | rfl
end
section
def trm (tag : Nat) (m : Mt) (most : Int) : List (Option (List AV)) :=
 hb 0 [.ref 1000000 (tag, 0) 0, .ref 1000001 (tag, 0) 0, .bool false] :: hb 1000000 (recC 1000001000000 tag) :: hb 1000001 (m.cells 1000002000000 tag) :: hb 1000001000000 (.ref 1000001000001000000 (tag, 0) 0 :: macR) :: (m.rest 1000002000000 ++ stMem 1000001000001000000 1000001000001000001500001 1000001000001000001000002 tag most)
theorem t_line0 (tag : Nat) (m : Mt) (hs : m.scr.Ok) (most : Int) : callH L T 70 tag [.ref 0 (tag, 0) 0, .agg [.int .i64 4, .int .i64 0, .nsl]] (trm tag m most) = some (.err 2, trm tag m most) := by
 have l1 := zdr
 have f1 := zdt
 have l2 := zem
 have f2 := zes
 have l3 := Scr.shut m.scr hs
 have f3 := Scr.free m.scr hs
 simp only [trm, recC, stMem, Mt.cells, Mt.rest, u8L, List.cons_append, List.nil_append, Nat.reduceAdd]
 generalize m.scr.enc = s at l3 f3 ⊢
 refine (za8 (show T (70 + 1000000000) = some (.hcode a70) from rfl) rfl (by simp only [argEnv, Nat.reduceAdd]; apply Eq.refl) (by simp only [hb, hHeap]; apply Eq.refl)).trans ?_
 (have fA := aI @l1 (aI @f1 (aI @l2 (aI @f2 (aI @l3 @f3)))); refine gox ?_; clear fA)
 (have fA := aI @l1 (aI @f1 (aI @l2 (aI @f2 (aI @l3 @f3)))); refine finhx ?_; clear fA; try with_reducible rfl)
 all_goals first | rfl
theorem t_Do0 (tag : Nat) (m : Mt) (hs : m.scr.Ok) (most : Int) : callH L T 21 tag [.ref 0 (tag, 0) 0, .agg [.int .i64 4, .int .i64 0, .nsl]] (trm tag m most) = some (.err 2, trm tag m most) := by
 have l1 := zdr
 have f1 := zdt
 have l2 := zem
 have f2 := zes
 have l3 := Scr.shut m.scr hs
 have f3 := Scr.free m.scr hs
 have cL := t_line0 (tag + 1) m hs most
 simp only [trm, recC, stMem, Mt.cells, Mt.rest, u8L, List.cons_append, List.nil_append, Nat.reduceAdd] at cL ⊢
 generalize m.scr.enc = s at l3 f3 cL ⊢
 refine (za8 (show T (21 + 1000000000) = some (.hcode a21) from rfl) rfl (by simp only [argEnv, Nat.reduceAdd]; apply Eq.refl) (by simp only [hb, hHeap]; apply Eq.refl)).trans ?_
 (have fA := aI @l1 (aI @f1 (aI @l2 (aI @f2 (aI @l3 @f3)))); have c1 := cL; refine gox ?_; clear fA c1)
 (have fA := aI @l1 (aI @f1 (aI @l2 (aI @f2 (aI @l3 @f3)))); refine finhx ?_; clear fA; try with_reducible rfl)
 all_goals first | rfl
end
section
theorem znl (tag : Nat) : callH L T 120 tag [] [] = some (.msl 400000 (tag, 0) 1 0 6, [hb 400000 [.err 1, .err 3, .err 4, .err 0, .err 5, .err 2]]) := by
 refine (za8 (show T (120 + 1000000000) = some (.hcode a120) from rfl) rfl (by simp only [argEnv, Nat.reduceAdd]; apply Eq.refl) (by simp only [hb, hHeap]; apply Eq.refl)).trans ?_
 (refine gox ?_)
 (refine finhx ?_; try with_reducible rfl)
 try rfl
theorem bare_ok (tag : Nat) (n : Int) : callω L T 72 tag [.int .i64 n] [none] = some (.agg [.int .i64 n, .bool false, .int .i64 0], [none]) := by
 rw [za5 (show T 72 = some (.code a72) from rfl) rfl rfl]
 (refine gox ?_)
 (refine finx ?_; try with_reducible rfl)
 try rfl
theorem zff (tag g k : Nat) : callω L T 121 tag [.err g, .err k] [none, none] = some (.bool (decide (g = k)), [none, none]) := by
 rw [za5 (show T 121 = some (.code a121) from rfl) rfl rfl]
 (refine gox ?_)
 (refine finx ?_; try with_reducible rfl)
 try rfl
theorem zow (tag : Nat) : callω L T 73 tag [.err 2] [none] = some (.int .i64 106, [none]) := by
 rw [za5 (show T 73 = some (.code a73) from rfl) rfl rfl]
 (have c1 := fun x1 => znl x1; refine gox ?_; clear c1)
 rw [zad]
 (have c1 := fun x1 => zff x1 2 1; refine gox ?_; clear c1)
 rw [zad]
 (have c1 := fun x1 => zff x1 2 3; refine gox ?_; clear c1)
 rw [zad]
 (have c1 := fun x1 => zff x1 2 4; refine gox ?_; clear c1)
 rw [zad]
 (have c1 := fun x1 => zff x1 2 0; refine gox ?_; clear c1)
 rw [zad]
 (have c1 := fun x1 => zff x1 2 5; refine gox ?_; clear c1)
 rw [zad]
 (have c1 := fun x1 => zff x1 2 2; refine gox ?_; clear c1)
 (refine finx ?_; try with_reducible rfl)
 try rfl
theorem zmm (tag : Nat) (a c x y : Int) (b d : Bool) (h : a = x ∧ b = d ∧ c = y) : callω L T 66 tag [.agg [.int .i64 a, .bool b, .int .i64 c], .agg [.int .i64 x, .bool d, .int .i64 y]] [none, none] = some (.bool true, [none, none]) := by
 obtain ⟨rfl, rfl, rfl⟩ := h
 have h1 : (a == a) = true := beq_self_eq_true _
 have h2 : (c == c) = true := beq_self_eq_true _
 have h3 : (b == b) = true := beq_self_eq_true _
 rw [za5 (show T 66 = some (.code a66) from rfl) rfl rfl]
 (refine gox ?_)
 (refine finx ?_; try with_reducible rfl)
 simp
theorem fault_ok (tag : Nat) : callω L T 22 tag [.err 2] [none] = some (.agg [.int .i64 106, .bool false, .int .i64 0], [none]) := by
 rw [za5 (show T 22 = some (.code a22) from rfl) rfl rfl]
 have ha : aAs L 149 true (.err 2) = some (.tup [.nilp, .bool false]) := by simp [aAs, aAsT, TI.zeroAV, TI.isAgg]
 (have fA := @ha; have c1 := fun x1 => zow x1; have c2 := fun x1 => bare_ok x1 106; refine gox ?_; clear fA c1 c2)
 (refine finx ?_; try with_reducible rfl)
 try rfl
theorem same_ok (tag : Nat) : callω L T 20 tag [.err 2, .agg [.int .i64 106, .bool false, .int .i64 0]] [none, none] = some (.bool true, [none, none]) := by
 rw [za5 (show T 20 = some (.code a20) from rfl) rfl rfl]
 (have c1 := fun x1 => fault_ok x1; have c2 := fun x1 => zmm x1 106 0 106 0 false false ⟨rfl, rfl, rfl⟩; refine gox ?_; clear c1 c2)
 (refine finx ?_; try with_reducible rfl)
 try rfl
theorem is_ok (tag : Nat) : callω L T 40 tag [.err 2, .int .i64 106] [none, none] = some (.bool true, [none, none]) := by
 rw [za5 (show T 40 = some (.code a40) from rfl) rfl rfl]
 (have c1 := fun x1 => bare_ok x1 106; have c2 := fun x1 => same_ok x1; refine gox ?_; clear c1 c2)
 (refine finx ?_; try with_reducible rfl)
 try rfl
end
section
theorem zhi (tag : Nat) : callω L T 11 tag [] [] = some (.bool true, []) := by
 obtain ⟨G, hG, pG, cS⟩ := t_Shot0 (tag + 1) 3 (mtNew 50)
 have cV := t_viNew (tag + 1)
 have cD := t_Do0 (tag + 1) (mtNew 50) zbo 3
 have l1 := zdr
 have f1 := zdt
 have l2 := zem
 have f2 := zes
 have l3 := Scr.shut sNew zbo
 have f3 := Scr.free sNew zbo
 have sl1 : stillL macR = true := zci fun c hc => zc5 (List.all_eq_true.mp zpk c hc)
 have sl2 : stillL recR = true := zci fun c hc => zc5 (List.all_eq_true.mp zp1 c hc)
 have sl3 : stillL sNew.enc = true := zci fun c hc => zc5 (List.all_eq_true.mp (enc_pl zbo) c hc)
 have q1 : (G ++ ([.nsl, .str s100, .int .i64 0, .int .i64 0, .int .i64 0] : List AV))[10001]? = some (.str s100) := zai 1 (by omega)
 have q2 : (G ++ ([.nsl, .str s100, .int .i64 0, .int .i64 0, .int .i64 0] : List AV)).length = 10005 := by simp [hG]
 have hs : (s100.toList == ({ data := #[80, 49, 48, 48, 32, 32, 32, 32] } : ByteArray).toList) = true := beq_self_eq_true _
 unfold mtNew at cV cD cS
 simp only [shotC] at cS
 generalize sNew = scr at cV cD cS l3 f3 sl3
 generalize PS.start = p at cV cD cS
 obtain ⟨m, proll, lower, ext, c0, speed, echo⟩ := p
 simp only [trm, recC, recV, stMem, Mt.vw, Mt.mem, Mt.rest, Mt.cells, u8L, List.map_nil, List.length_nil, List.cons_append, List.nil_append, Nat.reduceAdd] at cV cD cS
 generalize scr.enc = s at cV cD cS l3 f3 sl3
 rw [za5 (show T 11 = some (.code a11) from rfl) rfl rfl]
 (have fA := aI @l1 (aI @f1 (aI @l2 (aI @f2 (aI @l3 (aI @f3 (aI @sl1 (aI @sl2 (aI @sl3 (aI @q1 @q2))))))))); have c1 := cV; have c2 := cS; have c3 := cD; have c4 := fun x1 => is_ok x1; refine gox ?_; clear fA c1 c2 c3 c4)
 (refine finx ?_; try with_reducible rfl)
 all_goals first | rfl
end
end Go.Proofs.YtbaenaalfpcaaaaGreatDoor
