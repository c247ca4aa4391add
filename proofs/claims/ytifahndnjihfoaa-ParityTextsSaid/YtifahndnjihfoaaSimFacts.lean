/- Plain facts on the integers of the model, lists, bytes. -/
import Derived.Test.YtifahndnjihfoaaSimLoop
set_option linter.unusedVariables false
set_option linter.unusedSimpArgs false
namespace Go.Sim
open Go

theorem ofInt_toNat {n : Nat} {a : Nat} (ha : a < 2 ^ n) : (BitVec.ofInt n (a : Int)).toNat = a := by
  rw [BitVec.toNat_ofInt]
  have h : ((a : Int) % ((2 ^ n : Nat) : Int)) = ((a % 2 ^ n : Nat) : Int) := by exact (Int.natCast_emod a (2 ^ n)).symm
  rw [h, Int.toNat_natCast, Nat.mod_eq_of_lt ha]

section
variable {a b : Nat}

theorem and64 (ha : a < 9223372036854775808) (hb : b < 9223372036854775808) : bAnd .i64 a b = ((a &&& b : Nat) : Int) := by
  show IntKind.i64.wrap (((BitVec.ofInt 64 (a : Int) &&& BitVec.ofInt 64 (b : Int)).toNat : Nat) : Int) = _
  rw [BitVec.toNat_and, ofInt_toNat (by omega), ofInt_toNat (by omega)]
  have : a &&& b ≤ a := Nat.and_le_left
  exact wrap_i64 (by omega) (by omega)
theorem or64 (ha : a < 9223372036854775808) (hb : b < 9223372036854775808) : bOr .i64 a b = ((a ||| b : Nat) : Int) := by
  show IntKind.i64.wrap (((BitVec.ofInt 64 (a : Int) ||| BitVec.ofInt 64 (b : Int)).toNat : Nat) : Int) = _
  rw [BitVec.toNat_or, ofInt_toNat (by omega), ofInt_toNat (by omega)]
  have : a ||| b < 2 ^ 63 := Nat.or_lt_two_pow (by omega) (by omega)
  exact wrap_i64 (by omega) (by omega)
theorem xor64 (ha : a < 9223372036854775808) (hb : b < 9223372036854775808) : bXor .i64 a b = ((a ^^^ b : Nat) : Int) := by
  show IntKind.i64.wrap (((BitVec.ofInt 64 (a : Int) ^^^ BitVec.ofInt 64 (b : Int)).toNat : Nat) : Int) = _
  rw [BitVec.toNat_xor, ofInt_toNat (by omega), ofInt_toNat (by omega)]
  have : a ^^^ b < 2 ^ 63 := Nat.xor_lt_two_pow (by omega) (by omega)
  exact wrap_i64 (by omega) (by omega)
theorem and8 (ha : a < 256) (hb : b < 256) : bAnd .u8 a b = ((a &&& b : Nat) : Int) := bAnd_nat ha hb
theorem or8 (ha : a < 256) (hb : b < 256) : bOr .u8 a b = ((a ||| b : Nat) : Int) := bOr_nat ha hb
theorem xor8 (ha : a < 256) (hb : b < 256) : bXor .u8 a b = ((a ^^^ b : Nat) : Int) := bXor_nat ha hb

theorem shr_nat (k : IntKind) {s : Nat} (hs : s ≤ k.bits) : bShr k a s = ((a >>> s : Nat) : Int) := by
  unfold bShr
  rw [Int.toNat_natCast, Nat.min_eq_left hs, Nat.shiftRight_eq_div_pow, Int.fdiv_eq_ediv_of_nonneg _ (by exact Int.le_of_lt (Int.pow_pos (by decide)))]
  simp

theorem shl64 {s : Nat} (hs : s ≤ 64) (h : a <<< s < 9223372036854775808) : bShl .i64 a s = ((a <<< s : Nat) : Int) := by
  have hm : min s IntKind.i64.bits = s := Nat.min_eq_left hs
  unfold bShl
  rw [Int.toNat_natCast, hm]
  rw [Nat.shiftLeft_eq] at h ⊢
  have e : (a : Int) * 2 ^ s = ((a * 2 ^ s : Nat) : Int) := by simp
  rw [e]
  exact wrap_i64 (by omega) (by omega)

theorem and_one_mod (n : Nat) : n &&& 1 = n % 2 := Nat.and_one_is_mod n
theorem shr_one (n : Nat) : n >>> 1 = n / 2 := by rw [Nat.shiftRight_eq_div_pow]
end

theorem w_i64 {x : Int} (h : -9223372036854775808 ≤ x) (h' : x ≤ 9223372036854775807) : IntKind.i64.wrap x = x := wrap_i64 h h'
theorem w_u64 {x : Int} (h : 0 ≤ x) (h' : x ≤ 18446744073709551615) : IntKind.u64.wrap x = x := wrap_u64 h h'
theorem w_u8 {x : Int} (h : 0 ≤ x) (h' : x < 256) : IntKind.u8.wrap x = x := by rw [wrap_u8]; omega
theorem wrap_nat {n : Nat} (h : n < 9223372036854775808) : IntKind.i64.wrap (n : Int) = n := wrap_i64 (by omega) (by omega)
theorem wrap_succ {k n : Nat} (hk : k < n) (hn : n < 9223372036854775808) : IntKind.i64.wrap ((k : Int) + 1) = ((k + 1 : Nat) : Int) := by
  rw [wrap_i64 (by omega) (by omega)]; simp

theorem pl_bool (b : Bool) : AV.plain (.bool b) = true := rfl
theorem pl_int (k : IntKind) (n : Int) : AV.plain (.int k n) = true := rfl
theorem pl_str (s : ByteArray) : AV.plain (.str s) = true := rfl
theorem pl_nilp : AV.plain .nilp = true := rfl
theorem pl_nsl : AV.plain .nsl = true := rfl
theorem pl_nilI : AV.plain .nilI = true := rfl
theorem pl_nilF : AV.plain .nilF = true := rfl
theorem pl_msl (a : Nat) (b : Nat × Nat) (c d e : Nat) : AV.plain (.msl a b c d e) = false := rfl
theorem pl_ref (a : Nat) (b : Nat × Nat) (c : Nat) : AV.plain (.ref a b c) = false := rfl
theorem pl_isl (a b : Nat) (c : List AV) : AV.plain (.isl a b c) = false := rfl
theorem pl_fsl (a b : Nat) (c : List AV) : AV.plain (.fsl a b c) = false := rfl
theorem pl_agg (c : List AV) : AV.plain (.agg c) = false := rfl
theorem all_plain_int (k : IntKind) (xs : List Int) : (xs.map (AV.int k)).all AV.plain = true := by induction xs with | nil => rfl | cons x xs ih => simp [AV.plain]
theorem all_plain_bool (xs : List Bool) : (xs.map AV.bool).all AV.plain = true := by induction xs with | nil => rfl | cons x xs ih => simp [AV.plain]
theorem all_plain_app (xs ys : List AV) : (xs ++ ys).all AV.plain = (xs.all AV.plain && ys.all AV.plain) := List.all_append
theorem allP {a : List AV} (h : a.all AV.plain = true) : (∀ x, x ∈ a → x.plain = true) = True := eq_true (List.all_eq_true.1 h)
theorem drop_cons {α : Type} {xs : List α} {k : Nat} (h : k < xs.length) : xs.drop k = xs[k] :: xs.drop (k + 1) := List.drop_eq_getElem_cons h

theorem drop_map_cons {α β : Type} {xs : List α} {k : Nat} (h : k < xs.length) (f : α → β) : (xs.map f).drop k = f xs[k] :: (xs.map f).drop (k + 1) := by
  rw [← List.map_drop, drop_cons h, List.map_cons, List.map_drop]

theorem take_map_snoc {α β : Type} {xs : List α} {k : Nat} (h : k < xs.length) (f : α → β) : (xs.take (k + 1)).map f = (xs.take k).map f ++ [f xs[k]] := by
  rw [List.take_add_one, List.map_append]
  simp [h]
theorem set_split {α : Type} {xs : List α} {k : Nat} (h : k < xs.length) (v : α) : xs.take k ++ v :: xs.drop (k + 1) = xs.set k v := (List.set_eq_take_append_cons_drop ..).symm ▸ by simp [h]

theorem take_map_len {α β : Type} (xs : List α) (f : α → β) : (xs.map f).take xs.length = xs.map f := by rw [List.take_of_length_le (by simp)]

end Go.Sim
