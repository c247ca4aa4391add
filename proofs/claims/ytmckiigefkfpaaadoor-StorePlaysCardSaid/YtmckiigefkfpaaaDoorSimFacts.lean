/- Plain facts on the integers of the model, lists, bytes. -/
import Derived.Test.YtmckiigefkfpaaaDoorSimLoop
set_option linter.unusedVariables false
set_option linter.unusedSimpArgs false
namespace Go.Sim
open Go

theorem ofInt_toNat {n : Nat} {a : Nat} (ha : a < 2 ^ n) : (BitVec.ofInt n (a : Int)).toNat = a := by
  rw [BitVec.toNat_ofInt]
  have h : ((a : Int) % ((2 ^ n : Nat) : Int)) = ((a % 2 ^ n : Nat) : Int) := by exact (Int.natCast_emod a (2 ^ n)).symm
  rw [h, Int.toNat_natCast, Nat.mod_eq_of_lt ha]

section
variable {a b : Nat}

theorem and64 (ha : a < 9223372036854775808) (hb : b < 9223372036854775808) : bAnd .i64 a b = ((a &&& b : Nat) : Int) := by
  show IntKind.i64.wrap (((BitVec.ofInt 64 (a : Int) &&& BitVec.ofInt 64 (b : Int)).toNat : Nat) : Int) = _
  rw [BitVec.toNat_and, ofInt_toNat (by omega), ofInt_toNat (by omega)]
  have : a &&& b ≤ a := Nat.and_le_left
  exact wrap_i64 (by omega) (by omega)
theorem or64 (ha : a < 9223372036854775808) (hb : b < 9223372036854775808) : bOr .i64 a b = ((a ||| b : Nat) : Int) := by
  show IntKind.i64.wrap (((BitVec.ofInt 64 (a : Int) ||| BitVec.ofInt 64 (b : Int)).toNat : Nat) : Int) = _
  rw [BitVec.toNat_or, ofInt_toNat (by omega), ofInt_toNat (by omega)]
  have : a ||| b < 2 ^ 63 := Nat.or_lt_two_pow (by omega) (by omega)
  exact wrap_i64 (by omega) (by omega)
theorem xor64 (ha : a < 9223372036854775808) (hb : b < 9223372036854775808) : bXor .i64 a b = ((a ^^^ b : Nat) : Int) := by
  show IntKind.i64.wrap (((BitVec.ofInt 64 (a : Int) ^^^ BitVec.ofInt 64 (b : Int)).toNat : Nat) : Int) = _
  rw [BitVec.toNat_xor, ofInt_toNat (by omega), ofInt_toNat (by omega)]
  have : a ^^^ b < 2 ^ 63 := Nat.xor_lt_two_pow (by omega) (by omega)
  exact wrap_i64 (by omega) (by omega)
theorem and8 (ha : a < 256) (hb : b < 256) : bAnd .u8 a b = ((a &&& b : Nat) : Int) := bAnd_nat ha hb
theorem or8 (ha : a < 256) (hb : b < 256) : bOr .u8 a b = ((a ||| b : Nat) : Int) := bOr_nat ha hb
theorem xor8 (ha : a < 256) (hb : b < 256) : bXor .u8 a b = ((a ^^^ b : Nat) : Int) := bXor_nat ha hb

theorem shr_nat (k : IntKind) {s : Nat} (hs : s ≤ k.bits) : bShr k a s = ((a >>> s : Nat) : Int) := by
  unfold bShr
  rw [Int.toNat_natCast, Nat.min_eq_left hs, Nat.shiftRight_eq_div_pow, Int.fdiv_eq_ediv_of_nonneg _ (by exact Int.le_of_lt (Int.pow_pos (by decide)))]
  simp

theorem shl64 {s : Nat} (hs : s ≤ 64) (h : a <<< s < 9223372036854775808) : bShl .i64 a s = ((a <<< s : Nat) : Int) := by
  have hm : min s IntKind.i64.bits = s := Nat.min_eq_left hs
  unfold bShl
  rw [Int.toNat_natCast, hm]
  rw [Nat.shiftLeft_eq] at h ⊢
  have e : (a : Int) * 2 ^ s = ((a * 2 ^ s : Nat) : Int) := by simp
  rw [e]
  exact wrap_i64 (by omega) (by omega)

theorem and_one_mod (n : Nat) : n &&& 1 = n % 2 := Nat.and_one_is_mod n
theorem shr_one (n : Nat) : n >>> 1 = n / 2 := by rw [Nat.shiftRight_eq_div_pow]
end

theorem w_i64 {x : Int} (h : -9223372036854775808 ≤ x) (h' : x ≤ 9223372036854775807) : IntKind.i64.wrap x = x := wrap_i64 h h'
theorem w_u64 {x : Int} (h : 0 ≤ x) (h' : x ≤ 18446744073709551615) : IntKind.u64.wrap x = x := wrap_u64 h h'
theorem w_u8 {x : Int} (h : 0 ≤ x) (h' : x < 256) : IntKind.u8.wrap x = x := by rw [wrap_u8]; omega
theorem wrap_nat {n : Nat} (h : n < 9223372036854775808) : IntKind.i64.wrap (n : Int) = n := wrap_i64 (by omega) (by omega)
theorem wrap_succ {k n : Nat} (hk : k < n) (hn : n < 9223372036854775808) : IntKind.i64.wrap ((k : Int) + 1) = ((k + 1 : Nat) : Int) := by
  rw [wrap_i64 (by omega) (by omega)]; simp

theorem pl_bool (b : Bool) : AV.plain (.bool b) = true := rfl
theorem pl_int (k : IntKind) (n : Int) : AV.plain (.int k n) = true := rfl
theorem pl_str (s : ByteArray) : AV.plain (.str s) = true := rfl
theorem pl_nilp : AV.plain .nilp = true := rfl
theorem pl_nsl : AV.plain .nsl = true := rfl
theorem pl_nilI : AV.plain .nilI = true := rfl
theorem pl_nilF : AV.plain .nilF = true := rfl
theorem pl_msl (a : Nat) (b : Nat × Nat) (c d e : Nat) : AV.plain (.msl a b c d e) = false := rfl
theorem pl_ref (a : Nat) (b : Nat × Nat) (c : Nat) : AV.plain (.ref a b c) = false := rfl
theorem pl_isl (a b : Nat) (c : List AV) : AV.plain (.isl a b c) = false := rfl
theorem pl_fsl (a b : Nat) (c : List AV) : AV.plain (.fsl a b c) = false := rfl
theorem pl_agg (c : List AV) : AV.plain (.agg c) = false := rfl
theorem all_plain_int (k : IntKind) (xs : List Int) : (xs.map (AV.int k)).all AV.plain = true := by induction xs with | nil => rfl | cons x xs ih => simp [AV.plain]
theorem all_plain_bool (xs : List Bool) : (xs.map AV.bool).all AV.plain = true := by induction xs with | nil => rfl | cons x xs ih => simp [AV.plain]
theorem all_plain_app (xs ys : List AV) : (xs ++ ys).all AV.plain = (xs.all AV.plain && ys.all AV.plain) := List.all_append
theorem allP {a : List AV} (h : a.all AV.plain = true) : (∀ x, x ∈ a → x.plain = true) = True := eq_true (List.all_eq_true.1 h)
theorem drop_cons {α : Type} {xs : List α} {k : Nat} (h : k < xs.length) : xs.drop k = xs[k] :: xs.drop (k + 1) := List.drop_eq_getElem_cons h

theorem drop_map_cons {α β : Type} {xs : List α} {k : Nat} (h : k < xs.length) (f : α → β) : (xs.map f).drop k = f xs[k] :: (xs.map f).drop (k + 1) := by
  rw [← List.map_drop, drop_cons h, List.map_cons, List.map_drop]

theorem take_map_snoc {α β : Type} {xs : List α} {k : Nat} (h : k < xs.length) (f : α → β) : (xs.take (k + 1)).map f = (xs.take k).map f ++ [f xs[k]] := by
  rw [List.take_add_one, List.map_append]
  simp [h]
theorem set_split {α : Type} {xs : List α} {k : Nat} (h : k < xs.length) (v : α) : xs.take k ++ v :: xs.drop (k + 1) = xs.set k v := (List.set_eq_take_append_cons_drop ..).symm ▸ by simp [h]

theorem take_map_len {α β : Type} (xs : List α) (f : α → β) : (xs.map f).take xs.length = xs.map f := by rw [List.take_of_length_le (by simp)]

theorem ofInt_mod (x : Int) : (BitVec.ofInt 64 x).toNat = (x % 18446744073709551616).toNat := by
  rw [BitVec.toNat_ofInt]; rfl
/-- The lowest bits of a number. -/
theorem and_mask (x : Int) {m : Nat} (hm : m ≤ 62) : bAnd .i64 x ((2 ^ m - 1 : Nat) : Int) = x % ((2 ^ m : Nat) : Int) := by
  have hp : 2 ^ m ≤ 2 ^ 62 := Nat.pow_le_pow_right (by omega) hm
  have hq : 0 < 2 ^ m := Nat.two_pow_pos m
  show IntKind.i64.wrap (((BitVec.ofInt 64 x &&& BitVec.ofInt 64 ((2 ^ m - 1 : Nat) : Int)).toNat : Nat) : Int) = _
  rw [BitVec.toNat_and, ofInt_mod, ofInt_toNat (by omega), Nat.and_two_pow_sub_one_eq_mod]
  have hd : (18446744073709551616 : Int) = ((2 ^ m : Nat) : Int) * ((2 ^ (64 - m) : Nat) : Int) := by
    have : 2 ^ m * 2 ^ (64 - m) = 18446744073709551616 := by rw [← Nat.pow_add, show m + (64 - m) = 64 from by omega]
    rw [← Int.natCast_mul, this]; rfl
  have h0 : 0 ≤ x % 18446744073709551616 := Int.emod_nonneg _ (by omega)
  have e : (((x % 18446744073709551616).toNat % 2 ^ m : Nat) : Int) = x % ((2 ^ m : Nat) : Int) := by
    rw [Int.natCast_emod, Int.toNat_of_nonneg h0]
    exact Int.emod_emod_of_dvd x (hd ▸ Int.dvd_mul_right _ _)
  rw [e]
  have h1 : 0 ≤ x % ((2 ^ m : Nat) : Int) := Int.emod_nonneg _ (by omega)
  have h2 : x % ((2 ^ m : Nat) : Int) < ((2 ^ m : Nat) : Int) := Int.emod_lt_of_pos _ (by omega)
  exact wrap_i64 (by omega) (by omega)
theorem and_1 (x : Int) : bAnd .i64 x 1 = x % 2 := and_mask x (m := 1) (by omega)
theorem and_3 (x : Int) : bAnd .i64 x 3 = x % 4 := and_mask x (m := 2) (by omega)
theorem and_7 (x : Int) : bAnd .i64 x 7 = x % 8 := and_mask x (m := 3) (by omega)
theorem and_15 (x : Int) : bAnd .i64 x 15 = x % 16 := and_mask x (m := 4) (by omega)
theorem and_31 (x : Int) : bAnd .i64 x 31 = x % 32 := and_mask x (m := 5) (by omega)
theorem and_63 (x : Int) : bAnd .i64 x 63 = x % 64 := and_mask x (m := 6) (by omega)
theorem shr_pow (k : IntKind) (x : Int) {s : Nat} (hs : s ≤ k.bits) : bShr k x s = x / ((2 ^ s : Nat) : Int) := by
  unfold bShr
  rw [Int.toNat_natCast, Nat.min_eq_left hs, Int.fdiv_eq_ediv_of_nonneg _ (by exact Int.le_of_lt (Int.pow_pos (by decide)))]
  simp

theorem nat_not_neg (n : Nat) : ((n : Int) < 0) = False := by simp
theorem mergeInt {c : Prop} [Decidable c] {k : IntKind} {a b : Int} {l : List (Option (List AV))} : (if c then some (AV.int k a, l) else some (AV.int k b, l)) = some (AV.int k (if c then a else b), l) := by split <;> rfl
theorem mergeBool {c : Prop} [Decidable c] {a b : Bool} {l : List (Option (List AV))} : (if c then some (AV.bool a, l) else some (AV.bool b, l)) = some (AV.bool (if c then a else b), l) := by split <;> rfl
theorem same_int {k : IntKind} {a b : Int} {l : List (Option (List AV))} (h : a = b) : some (AV.int k a, l) = some (AV.int k b, l) := by rw [h]
theorem same_bool {a b : Bool} {l : List (Option (List AV))} (h : a = b) : some (AV.bool a, l) = some (AV.bool b, l) := by rw [h]

theorem int_beq (a b : Int) : (a == b) = decide (a = b) := by by_cases h : a = b <;> simp [h]
theorem int_bne (a b : Int) : (a != b) = !decide (a = b) := by by_cases h : a = b <;> simp [h]

theorem all_pc_bool (xs : List Bool) : xs.all (AV.plain ∘ AV.bool) = true := by induction xs with | nil => rfl | cons x xs ih => simp [AV.plain]
theorem all_pc_int (k : IntKind) (xs : List Int) : xs.all (AV.plain ∘ AV.int k) = true := by induction xs with | nil => rfl | cons x xs ih => simp [AV.plain]

theorem all_take {p : AV → Bool} {l : List AV} (h : l.all p = true) (k : Nat) : (l.take k).all p = true := List.all_eq_true.2 fun x hx => List.all_eq_true.1 h x (List.mem_of_mem_take hx)
theorem all_drop {p : AV → Bool} {l : List AV} (h : l.all p = true) (k : Nat) : (l.drop k).all p = true := List.all_eq_true.2 fun x hx => List.all_eq_true.1 h x (List.mem_of_mem_drop hx)
theorem all_take_bool (k : Nat) (xs : List Bool) : ((xs.map AV.bool).take k).all AV.plain = true := all_take (all_plain_bool xs) k
theorem all_drop_bool (k : Nat) (xs : List Bool) : ((xs.map AV.bool).drop k).all AV.plain = true := all_drop (all_plain_bool xs) k
theorem all_take_int (i : IntKind) (k : Nat) (xs : List Int) : ((xs.map (AV.int i)).take k).all AV.plain = true := all_take (all_plain_int i xs) k
theorem all_drop_int (i : IntKind) (k : Nat) (xs : List Int) : ((xs.map (AV.int i)).drop k).all AV.plain = true := all_drop (all_plain_int i xs) k

end Go.Sim
