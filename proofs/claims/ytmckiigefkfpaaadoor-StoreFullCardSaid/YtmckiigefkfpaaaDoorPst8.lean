/- Functions of the seat, worked off from their code: chunk st8. Written by program (tools/mkp.py) from wip/fn. -/
import Derived.Test.YtmckiigefkfpaaaDoorSimT
import Derived.Test.YtmckiigefkfpaaaDoorSimY
import Derived.Test.YtmckiigefkfpaaaDoorPnum
import Derived.Test.YtmckiigefkfpaaaDoorPst2sI
import Derived.Test.YtmckiigefkfpaaaDoorPst3sI
import Derived.Test.YtmckiigefkfpaaaDoorPst4sI
import Derived.Test.YtmckiigefkfpaaaDoorPst5sI
import Derived.Test.YtmckiigefkfpaaaDoorPst7
set_option maxRecDepth 100000
set_option maxHeartbeats 40000000
set_option linter.unusedSimpArgs false
set_option linter.unusedVariables false
namespace Go.Proofs.YtmckiigefkfpaaaDoor
open Go Go.Sim
attribute [local irreducible] chk brX hX finH keyX visit packed backPk backOk backHeap stays getAll getX strX setX takeX normX fillX lendX partsX opsX callK lentK lentR giveX adoptX resX joinX headX loopX seqK blkK regK finX exOps ex eqT
attribute [local simp] setR_int setR_bool setR_zero setR_succ repl_int repl_bool List.getElem?_cons_zero List.getElem?_cons_succ List.getElem?_nil w_i64 w_u64 w_u8 bAnd_u8 bOr_u8 bXor_u8 bAndNot_u8 bShl_u8 wrap_u8_range all_plain_int all_plain_bool all_plain_app pl_bool pl_int pl_str pl_nilp pl_nsl pl_nilI pl_nilF take_map_len AV.cells TI.isAgg
/-! a store of one -/
section
variable (tag : Nat) (a pin k : ByteArray) (v w : Int) (pn : Bool) (sp : List AV) (hs : shutL sp = true)
include hs
theorem one_same : callH L T 10 tag [.ref 0 (tag, 0) 0, .str a, .int .i64 w] [hb 0 [.int .i64 1, .mref 1500001 (tag, 0), .msl 1000002 (tag, 0) 1 0 1, .str pin, .bool pn], hb 1500001 [.mapd [.str a] [.int .i64 v]], hb 1000002 (.str a :: sp)] = some (.tup [.str ByteArray.empty, .bool false], [hb 0 [.int .i64 1, .mref 1500001 (tag, 0), .msl 1000002 (tag, 0) 1 0 1, .str pin, .bool pn], hb 1500001 [.mapd [.str a] [.int .i64 w]], hb 1000002 (.str a :: [])]) := by
  have := put_sI tag 1 [(a, v)] pin pn sp a w hs (by simp) (by simp)
  have e : putL [(a, v)] a w = [(a, w)] := by simp [putL]
  rw [e, if_pos (by simp)] at this
  exact this
theorem one_other (hk : ¬ a = k) : callH L T 10 tag [.ref 0 (tag, 0) 0, .str k, .int .i64 w] [hb 0 [.int .i64 1, .mref 1500001 (tag, 0), .msl 1000002 (tag, 0) 1 0 1, .str a, .bool true], hb 1500001 [.mapd [.str a] [.int .i64 v]], hb 1000002 (.str a :: sp)] = some (.tup [.str k, .bool true], [hb 0 [.int .i64 1, .mref 1500001 (tag, 0), .msl 1000002 (tag, 0) 1 0 1, .str a, .bool true], hb 1500001 [.mapd [.str a] [.int .i64 v]], hb 1000002 (.str a :: [.str ByteArray.empty])]) := by
  have := put_sI tag 1 [(a, v)] a true sp k w hs (by simp) (by simp)
  have e : putL [(a, v)] k w = [(a, v), (k, w)] := by simp [putL, hk]
  have e2 : vic k a true [(a, v), (k, w)] = k := by simp [vic]
  have e3 : dropL [(a, v), (k, w)] k = [(a, v)] := by simp [dropL, hk]
  rw [e, if_neg (by simp), e2, e3] at this
  exact this
theorem one_free (hk : ¬ a = k) : callH L T 10 tag [.ref 0 (tag, 0) 0, .str k, .int .i64 w] [hb 0 [.int .i64 1, .mref 1500001 (tag, 0), .msl 1000002 (tag, 0) 1 0 1, .str pin, .bool false], hb 1500001 [.mapd [.str a] [.int .i64 v]], hb 1000002 (.str a :: sp)] = some (.tup [.str a, .bool true], [hb 0 [.int .i64 1, .mref 1500001 (tag, 0), .msl 1000002 (tag, 0) 1 0 1, .str pin, .bool false], hb 1500001 [.mapd [.str k] [.int .i64 w]], hb 1000002 (.str k :: [.str ByteArray.empty])]) := by
  have := put_sI tag 1 [(a, v)] pin false sp k w hs (by simp) (by simp)
  have hk' : ¬ k = a := fun e => hk e.symm
  have e : putL [(a, v)] k w = [(a, v), (k, w)] := by simp [putL, hk]
  have e2 : vic k pin false [(a, v), (k, w)] = a := by simp [vic, hk]
  have e3 : dropL [(a, v), (k, w)] a = [(k, w)] := by simp [dropL, hk']
  rw [e, if_neg (by simp), e2, e3] at this
  exact this
theorem one_get : callH L T 12 tag [.ref 0 (tag, 0) 0, .str a] [hb 0 [.int .i64 1, .mref 1500001 (tag, 0), .msl 1000002 (tag, 0) 1 0 1, .str pin, .bool pn], hb 1500001 [.mapd [.str a] [.int .i64 v]], hb 1000002 (.str a :: sp)] = some (.tup [.int .i64 v, .bool true], [hb 0 [.int .i64 1, .mref 1500001 (tag, 0), .msl 1000002 (tag, 0) 1 0 1, .str pin, .bool pn], hb 1500001 [.mapd [.str a] [.int .i64 v]], hb 1000002 (.str a :: sp)]) := by
  have := get_sI tag 1 [(a, v)] pin pn sp a hs (by simp)
  simp only [List.find?_cons, decide_eq_true rfl] at this
  exact this
theorem one_pin : callH L T 11 tag [.ref 0 (tag, 0) 0, .str k] [hb 0 [.int .i64 1, .mref 1500001 (tag, 0), .msl 1000002 (tag, 0) 1 0 1, .str pin, .bool pn], hb 1500001 [.mapd [.str a] [.int .i64 v]], hb 1000002 (.str a :: sp)] = some (.tup [], [hb 0 [.int .i64 1, .mref 1500001 (tag, 0), .msl 1000002 (tag, 0) 1 0 1, .str k, .bool true], hb 1500001 [.mapd [.str a] [.int .i64 v]], hb 1000002 (.str a :: sp)]) := pin_sI tag 1 [(a, v)] pin pn sp k hs (by simp)
theorem one_unpin : callH L T 14 tag [.ref 0 (tag, 0) 0] [hb 0 [.int .i64 1, .mref 1500001 (tag, 0), .msl 1000002 (tag, 0) 1 0 1, .str pin, .bool pn], hb 1500001 [.mapd [.str a] [.int .i64 v]], hb 1000002 (.str a :: sp)] = some (.tup [], [hb 0 [.int .i64 1, .mref 1500001 (tag, 0), .msl 1000002 (tag, 0) 1 0 1, .str pin, .bool false], hb 1500001 [.mapd [.str a] [.int .i64 v]], hb 1000002 (.str a :: sp)]) := free_sI tag 1 [(a, v)] pin pn sp hs (by simp)
theorem one_len : callH L T 13 tag [.ref 0 (tag, 0) 0] [hb 0 [.int .i64 1, .mref 1500001 (tag, 0), .msl 1000002 (tag, 0) 1 0 1, .str pin, .bool pn], hb 1500001 [.mapd [.str a] [.int .i64 v]], hb 1000002 (.str a :: sp)] = some (.int .i64 1, [hb 0 [.int .i64 1, .mref 1500001 (tag, 0), .msl 1000002 (tag, 0) 1 0 1, .str pin, .bool pn], hb 1500001 [.mapd [.str a] [.int .i64 v]], hb 1000002 (.str a :: sp)]) := len_sI tag 1 [(a, v)] pin pn sp hs (by simp)
end
theorem one_first (tag : Nat) (a : ByteArray) (v : Int) : callH L T 10 tag [.ref 0 (tag, 0) 0, .str a, .int .i64 v] [hb 0 [.int .i64 1, .mref 1500001 (tag, 0), .nsl, .str ByteArray.empty, .bool false], hb 1500001 [.mapd [] []]] =
    some (.tup [.str ByteArray.empty, .bool false], [hb 0 [.int .i64 1, .mref 1500001 (tag, 0), .msl 1000002 (tag, 0) 1 0 1, .str ByteArray.empty, .bool false], hb 1500001 [.mapd [.str a] [.int .i64 v]], hb 1000002 (.str a :: [])]) := putN_sI tag 1 ByteArray.empty false a v (by omega)
def nm : Nat → ByteArray
  | 0 => ⟨#[97]⟩
  | 1 => ⟨#[98]⟩
  | 2 => ⟨#[99]⟩
  | _ => ⟨#[100]⟩
def zname : ByteArray := ⟨#[122]⟩
theorem nm_get {i : Nat} (h : i < 4) : ([.str ⟨#[97]⟩, .str ⟨#[98]⟩, .str ⟨#[99]⟩, .str ⟨#[100]⟩] : List AV)[i]? = some (.str (nm i)) := by
  match i, h with
  | 0, _ => rfl
  | 1, _ => rfl
  | 2, _ => rfl
  | 3, _ => rfl
theorem nm_inj {i j : Nat} (hi : i < 4) (hj : j < 4) (h : nm i = nm j) : i = j := by
  match i, hi, j, hj with
  | 0, _, 0, _ | 1, _, 1, _ | 2, _, 2, _ | 3, _, 3, _ => rfl
  | 0, _, 1, _ | 0, _, 2, _ | 0, _, 3, _ | 1, _, 0, _ | 1, _, 2, _ | 1, _, 3, _ | 2, _, 0, _ | 2, _, 1, _ | 2, _, 3, _ | 3, _, 0, _ | 3, _, 1, _ | 3, _, 2, _ => exact absurd h (by decide)
theorem nm_z {i : Nat} (hi : i < 4) : ¬ nm i = zname := by
  match i, hi with
  | 0, _ | 1, _ | 2, _ | 3, _ => decide
theorem num4 (n : Int) : ∃ p : Nat, p < 4 ∧ n % 4 = p := ⟨(n % 4).toNat, by omega, by omega⟩
theorem full_ok (xs : List Int) (pin : Int) : callω L T 3 0 [.isl 1 xs.length (xs.map (.int .i64)), .int .i64 pin] [none, none] = some (.bool true, [none, none]) := by
  rw [call_ex (show T 3 = some (.code a3) from rfl) rfl rfl]
  by_cases hl : 20 < xs.length
  · (have c1 := fun x1 => first_ok x1; refine gox ?_; clear c1)
    (refine finx ?_; try with_reducible rfl)
  · obtain ⟨p, hp, ep⟩ := num4 pin
    have hN := fun tag => t_Number tag pin 4 (by omega) (by omega)
    rw [ep] at hN
    have hg := nm_get hp
    have hr4 : repl 4 [.str ByteArray.empty] = [.str ByteArray.empty, .str ByteArray.empty, .str ByteArray.empty, .str ByteArray.empty] := rfl
    have h0 : shutL [] = true := rfl
    (have fA := And.intro @hr4 @hg; have c1 := fun x1 => first_ok x1; have c2 := fun x1 => hN x1; have c3 := fun x1 => new_sI x1 1 (by omega) (by omega); have c4 := fun x1 => one_first x1 (nm p) 100; have c5 := fun x1 => one_pin x1 (nm p) ByteArray.empty (nm p) 100 false [] h0; refine gox ?_; clear fA c1 c2 c3 c4 c5)
    refine Eq.trans (headX_atX (X := Int × List AV × Nat × Nat) (fun _ x => shutL x.2.1 = true) (fun j x => ⟨[(0, .isl 1 xs.length (xs.map (.int .i64))), (1, .int .i64 (p : Nat)), (5, .bool true), (6, .ref 28400000 (0, 1) 0), (8, .msl 36 (0, 2) 1 0 4), (9, .int .i64 (j : Nat))],
      [(36, ⟨(0, 2), [.str ⟨#[97]⟩, .str ⟨#[98]⟩, .str ⟨#[99]⟩, .str ⟨#[100]⟩]⟩),
       (28400000, ⟨(0, 1), [.int .i64 1, .mref 28400001500001 (0, x.2.2.1), .msl 28400001000002 (0, x.2.2.1) 1 0 1, .str (nm p), .bool true]⟩),
       (28400001500001, ⟨(0, x.2.2.1), [.mapd [.str (nm p)] [.int .i64 x.1]]⟩), (28400001000002, ⟨(0, x.2.2.1), .str (nm p) :: x.2.1⟩)], x.2.2.2, 0⟩) xs.length
      (fun _ _ => some (.bool true, [none, none])) ?_ ?_ 0 (by omega) (100, [], _, _) rfl) rfl
    · rintro j ⟨v, sp, g, nx⟩ hj hs ih
      simp only at hs ih ⊢
      obtain ⟨q, hq, eq⟩ := num4 xs[j]
      have hM := fun tag => t_Number tag xs[j] 4 (by omega) (by omega)
      rw [eq] at hM
      have hgq := nm_get hq
      have hx : (xs.map (AV.int .i64))[j]? = some (.int .i64 xs[j]) := by simp [hj]
      by_cases hqp : q = p
      · subst hqp
        (have fA := And.intro @hs (And.intro @hgq @hx); have c1 := fun x1 => hM x1; have c2 := fun x1 => one_same x1 (nm q) (nm q) v j true sp hs; have c3 := fun x1 => one_get x1 (nm q) (nm q) j true [] h0; refine gox ?_; clear fA c1 c2 c3)
        refine Eq.trans (head_eq (by rw [wrap_succ hj (by omega)]) rfl rfl) (ih (j, [], _, _) rfl)
      · have hne : ¬ nm p = nm q := fun e => hqp (nm_inj hp hq e).symm
        have hz : shutL [AV.str ByteArray.empty] = true := rfl
        have b1 : ((nm q).toList == (nm q).toList) = true := beq_self_eq_true _
        have b2 : (!((nm q).toList == (nm q).toList)) = false := by rw [b1]; rfl
        have b4 : ¬ (q : Int) = (p : Int) := by omega
        have b3 : ((q : Int) == (p : Int)) = false := beq_eq_false_iff_ne.2 b4
        (have fA := And.intro @hs (And.intro @hgq (And.intro @hg @hx)); have c1 := fun x1 => hM x1; have c2 := fun x1 => one_other x1 (nm p) (nm q) v j sp hs hne; have c3 := fun x1 => one_get x1 (nm p) (nm p) v true [AV.str ByteArray.empty] hz; have c4 := fun x1 => one_len x1 (nm p) (nm p) v true [AV.str ByteArray.empty] hz; refine gox ?_; clear fA c1 c2 c3 c4)
        refine Eq.trans (head_eq (by rw [wrap_succ hj (by omega)]) rfl rfl) (ih (v, [.str ByteArray.empty], _, _) rfl)
    · rintro ⟨v, sp, g, nx⟩ hs
      simp only at hs ⊢
      have hz : shutL [AV.str ByteArray.empty] = true := rfl
      have b1 : ((nm p).toList == (nm p).toList) = true := beq_self_eq_true _
      (have fA := And.intro @hs @hg; have c1 := fun x1 => one_get x1 zname (nm p) 5 false [AV.str ByteArray.empty] hz; have c2 := fun x1 => one_len x1 zname (nm p) 5 false [AV.str ByteArray.empty] hz; have c3 := fun x1 => one_unpin x1 (nm p) (nm p) v true sp hs; have c4 := fun x1 => one_free x1 (nm p) (nm p) zname v 5 sp hs (nm_z hp); refine gox ?_; clear fA c1 c2 c3 c4)
      (refine finx ?_; try with_reducible rfl)
      rfl

end Go.Proofs.YtmckiigefkfpaaaDoor
