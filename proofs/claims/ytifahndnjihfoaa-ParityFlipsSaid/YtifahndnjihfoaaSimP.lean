/- Chapter 1: what the functions of parity answer, worked off from the code; ParityTurns' and ParityFlips' code. -/
import Derived.Test.YtifahndnjihfoaaSimT
import Derived.Test.YtifahndnjihfoaaSimGo
set_option maxRecDepth 100000
set_option linter.unusedSimpArgs false
namespace Go.Proofs.Ytifahndnjihfoaa
open Go.Sim
attribute [local congr] ite_congr go_congr goOps_congr stepK_congr ret_congr loopK_congr condK_congr guardK_congr
attribute [local simp] go_skip go_ret go_exit go_region go_seq go_cond go_block go_loop ret_nil ret_seq ret_seq_exit ret_seq_ret ret_blk ret_blk_ret ret_blk_exit ret_loop ret_loop_exit ret_loop_ret goOps_nil goOps_cons goOps_guard stepK_some stepK_none stepK_ite guardK_true guardK_false guardK_bool condK_bool fin
attribute [local simp] runs denOp operand aget aput adel putD tidy getAll freezeAll freezeOne lentOut oneOrTup argEnv lentHeap AV.plain ofConst ofScalar aCall lendAll lend lentApart lentFree readFree giveBack adopt aBin aUn L Ls mkA resT asInt? bnd
attribute [local simp] aInt_add aInt_sub aInt_mul aInt_quo aInt_rem aInt_and aInt_or aInt_xor aInt_andNot aInt_eql aInt_neq aInt_lss aInt_leq aInt_gtr aInt_geq aShift_shl aShift_shr

attribute [local simp] bAnd_u8 bOr_u8 bXor_u8 bAndNot_u8 bShl_u8 wrap_u8_range

def rev8 (n : Nat) : Nat := n % 2 * 128 + n / 2 % 2 * 64 + n / 4 % 2 * 32 + n / 8 % 2 * 16 + n / 16 % 2 * 8 + n / 32 % 2 * 4 + n / 64 % 2 * 2 + n / 128 % 2
def pop8 (n : Nat) : Nat := n % 2 + n / 2 % 2 + n / 4 % 2 + n / 8 % 2 + n / 16 % 2 + n / 32 % 2 + n / 64 % 2 + n / 128 % 2
theorem pop8_lt (n : Nat) : pop8 n < 256 := by unfold pop8; omega
theorem rev8_lt (n : Nat) : rev8 n < 256 := by unfold rev8; omega

def revI (x : Int) : Int := (rev8 x.toNat : Nat)
theorem revI_range (x : Int) : 0 ≤ revI x ∧ revI x < 256 := by
  have := rev8_lt x.toNat
  unfold revI; omega
attribute [local simp] revI_range

theorem t19 (tag : List Nat) (x : Int) (h0 : 0 ≤ x) (h : x < 256) : callω L T 19 tag [.int .u8 x] [none] = some (.int .u8 (revI x), [none]) := by
  rw [call_go (show T 19 = some (.code a19) from rfl) rfl rfl]
  simp [a19, Try.f19, h0]
  rw [map_tab (fun x => (AV.int IntKind.u8 x, _)) rev8 256 (by omega) (by decide +kernel)]
  simp [revI]

theorem t20 (tag : List Nat) (x : Int) (h0 : 0 ≤ x) (h : x < 256) : callω L T 20 tag [.int .u8 x] [none] = some (.int .i64 (pop8 x.toNat), [none]) := by
  rw [call_go (show T 20 = some (.code a20) from rfl) rfl rfl]
  simp [a20, Try.f20, h0]
  rw [map_tab (fun x => (AV.int IntKind.u8 x, _)) pop8 256 (by omega) (by decide +kernel)]
  have := pop8_lt x.toNat
  simp
  exact wrap_i64 (by omega) (by omega)

theorem t8 (tag : List Nat) (x : Int) (h0 : 0 ≤ x) (h : x < 256) : callω L T 8 tag [.int .u8 x] [none] = some (.int .u8 (revI x), [none]) := by
  rw [call_go (show T 8 = some (.code a8) from rfl) rfl rfl]
  simp [a8, Try.f8, t19, h0, h]

def oddI (x : Int) : Bool := (pop8 x.toNat : Int).tmod 2 == 1
theorem t9 (tag : List Nat) (x : Int) (h0 : 0 ≤ x) (h : x < 256) : callω L T 9 tag [.int .u8 x] [none] = some (.bool (oddI x), [none]) := by
  rw [call_go (show T 9 = some (.code a9) from rfl) rfl rfl]
  simp [a9, Try.f9, t20, h0, h, oddI]

def makeOddI (x : Int) : Int := if oddI (bAnd .u8 x 127) then bAnd .u8 x 127 else bOr .u8 (bAnd .u8 x 127) 128
theorem t10 (tag : List Nat) (x : Int) (h0 : 0 ≤ x) (h : x < 256) : callω L T 10 tag [.int .u8 x] [none] = some (.int .u8 (makeOddI x), [none]) := by
  rw [call_go (show T 10 = some (.code a10) from rfl) rfl rfl]
  simp [a10, Try.f10, t9, h0, h]
  unfold makeOddI
  split <;> rfl

theorem t7 (tag : List Nat) : callω L T 7 tag [] [] = some (.bool true, []) := by
  rw [call_go (show T 7 = some (.code a7) from rfl) rfl rfl]
  have h1 : makeOddI 0 = 128 := by decide +kernel
  have h2 : revI 1 = 128 := by decide +kernel
  simp [a7, Try.f7, t10, t8, h1, h2]

def byteB (p : Int → Bool) : Bool := allB (fun n => p n) 256
theorem byteB_get {p : Int → Bool} (h : byteB p = true) {x : Int} (h0 : 0 ≤ x) (h1 : x < 256) : p x = true := by
  have := allB_get (p := fun n => p n) h (i := x.toNat) (by omega)
  rwa [show ((x.toNat : Nat) : Int) = x from by omega] at this

theorem rev_xor {a b : Nat} (ha : a < 256) (hb : b < 256) : rev8 (Nat.xor a b) = Nat.xor (rev8 a) (rev8 b) := by
  have h : allB (fun a => allB (fun b => Nat.beq (rev8 (Nat.xor a b)) (Nat.xor (rev8 a) (rev8 b))) 256) 256 = true := by decide +kernel
  exact Nat.eq_of_beq_eq_true (allB_get (p := fun b => Nat.beq (rev8 (Nat.xor a b)) (Nat.xor (rev8 a) (rev8 b))) (allB_get (p := fun a => allB (fun b => Nat.beq (rev8 (Nat.xor a b)) (Nat.xor (rev8 a) (rev8 b))) 256) h ha) hb)
theorem rev_and {a b : Nat} (ha : a < 256) (hb : b < 256) : rev8 (Nat.land a b) = Nat.land (rev8 a) (rev8 b) := by
  have h : allB (fun a => allB (fun b => Nat.beq (rev8 (Nat.land a b)) (Nat.land (rev8 a) (rev8 b))) 256) 256 = true := by decide +kernel
  exact Nat.eq_of_beq_eq_true (allB_get (p := fun b => Nat.beq (rev8 (Nat.land a b)) (Nat.land (rev8 a) (rev8 b))) (allB_get (p := fun a => allB (fun b => Nat.beq (rev8 (Nat.land a b)) (Nat.land (rev8 a) (rev8 b))) 256) h ha) hb)

theorem law3 (x y : Int) (hx0 : 0 ≤ x) (hx : x < 256) (hy0 : 0 ≤ y) (hy : y < 256) : callω L T 3 [] [.int .u8 x, .int .u8 y] [none, none] = some (.bool true, [none, none]) := by
  rw [call_go (show T 3 = some (.code a3) from rfl) rfl rfl]
  have h1 : revI (revI x) = x := by
    have := byteB_get (p := fun x => revI (revI x) == x) (by decide +kernel) hx0 hx
    simpa using this
  have h2 : bShr .u8 (revI x) 7 = bAnd .u8 x 1 := by
    have := byteB_get (p := fun x => bShr .u8 (revI x) 7 == bAnd .u8 x 1) (by decide +kernel) hx0 hx
    simpa using this
  have h3 : bAnd .u8 (revI x) 1 = bShr .u8 x 7 := by
    have := byteB_get (p := fun x => bAnd .u8 (revI x) 1 == bShr .u8 x 7) (by decide +kernel) hx0 hx
    simpa using this
  have h4 : oddI (revI x) = oddI x := by
    have := byteB_get (p := fun x => oddI (revI x) == oddI x) (by decide +kernel) hx0 hx
    simpa using this
  obtain ⟨n, rfl⟩ : ∃ n : Nat, x = n := ⟨x.toNat, by omega⟩
  obtain ⟨m, rfl⟩ : ∃ n : Nat, y = n := ⟨y.toNat, by omega⟩
  have hn : n < 256 := by omega
  have hm : m < 256 := by omega
  have h5 : revI (bXor .u8 n m) = bXor .u8 (revI n) (revI m) := by
    rw [bXor_nat hn hm]
    simp only [revI, Int.toNat_natCast]
    rw [bXor_nat (rev8_lt _) (rev8_lt _), rev_xor hn hm]
  have h6 : revI (bAnd .u8 n m) = bAnd .u8 (revI n) (revI m) := by
    rw [bAnd_nat hn hm]
    simp only [revI, Int.toNat_natCast]
    rw [bAnd_nat (rev8_lt _) (rev8_lt _), rev_and hn hm]
  simp [a3, Try.f3, t7, t8, t9, hx0, hx, hy0, hy, h1, h2, h3, h4, h5, h6]
def makeEvenI (x : Int) : Int := bXor .u8 (makeOddI x) 128
theorem makeOddI_range (x : Int) : 0 ≤ makeOddI x ∧ makeOddI x < 256 := by unfold makeOddI; split <;> simp
theorem makeEvenI_range (x : Int) : 0 ≤ makeEvenI x ∧ makeEvenI x < 256 := by unfold makeEvenI; simp
theorem t12 (tag : List Nat) (x : Int) (h0 : 0 ≤ x) (h : x < 256) : callω L T 12 tag [.int .u8 x] [none] = some (.bool (!oddI x), [none]) := by
  rw [call_go (show T 12 = some (.code a12) from rfl) rfl rfl]
  simp [a12, Try.f12, t9, h0, h]
theorem t11 (tag : List Nat) (x : Int) (h0 : 0 ≤ x) (h : x < 256) : callω L T 11 tag [.int .u8 x] [none] = some (.int .u8 (makeEvenI x), [none]) := by
  rw [call_go (show T 11 = some (.code a11) from rfl) rfl rfl]
  simp [a11, Try.f11, t10, h0, h, makeEvenI]
theorem odd_flip {x : Int} (h0 : 0 ≤ x) (h1 : x < 256) {j : Nat} (hj : j < 8) : oddI (bXor .u8 x (bShl .u8 1 j)) = !oddI x := by
  have := byteB_get (p := fun x => allB (fun j => oddI (bXor .u8 x (bShl .u8 1 j)) == !oddI x) 8) (by decide +kernel) h0 h1
  have := allB_get (p := fun j => oddI (bXor .u8 x (bShl .u8 1 j)) == !oddI x) this hj
  simpa using this
theorem law4 (x i k : Int) (hx0 : 0 ≤ x) (hx : x < 256) : callω L T 4 [] [.int .u8 x, .int .i64 i, .int .i64 k] [none, none, none] = some (.bool true, [none, none, none]) := by
  rw [call_go (show T 4 = some (.code a4) from rfl) rfl rfl]
  obtain ⟨j, hj, hj7⟩ := bAnd_i64_le i (m := 7) (by omega)
  obtain ⟨l, hl, hl7⟩ := bAnd_i64_le k (m := 7) (by omega)
  replace hj : bAnd .i64 i 7 = j := hj
  replace hl : bAnd .i64 k 7 = l := hl
  have wj : IntKind.u64.wrap (j : Int) = j := wrap_u64 (by omega) (by omega)
  have wl : IntKind.u64.wrap (l : Int) = l := wrap_u64 (by omega) (by omega)
  have nj : ¬ (j : Int) < 0 := by omega
  have nl : ¬ (l : Int) < 0 := by omega
  have f1 : oddI (bXor .u8 x (bShl .u8 1 j)) = !oddI x := odd_flip hx0 hx (by omega)
  have f2 : oddI (bXor .u8 (bXor .u8 x (bShl .u8 1 j)) (bShl .u8 1 l)) = oddI x := by
    rw [odd_flip (bXor_u8 _ _).1 (bXor_u8 _ _).2 (by omega), f1]; simp
  have f3 : oddI (makeOddI x) = true := byteB_get (p := fun x => oddI (makeOddI x)) (by decide +kernel) hx0 hx
  have f4 : oddI (makeEvenI x) = false := by
    have := byteB_get (p := fun x => !oddI (makeEvenI x)) (by decide +kernel) hx0 hx
    simpa using this
  have f5 : bAnd .u8 (makeOddI x) 127 = bAnd .u8 x 127 := by
    have := byteB_get (p := fun x => bAnd .u8 (makeOddI x) 127 == bAnd .u8 x 127) (by decide +kernel) hx0 hx
    simpa using this
  have f6 : bAnd .u8 (makeEvenI x) 127 = bAnd .u8 x 127 := by
    have := byteB_get (p := fun x => bAnd .u8 (makeEvenI x) 127 == bAnd .u8 x 127) (by decide +kernel) hx0 hx
    simpa using this
  have f7 : ¬ makeOddI x = makeEvenI x := by
    have := byteB_get (p := fun x => !(makeOddI x == makeEvenI x)) (by decide +kernel) hx0 hx
    simpa using this
  simp [a4, Try.f4, t7, t8, t9, t10, t11, t12, hx0, hx, makeOddI_range, makeEvenI_range, hj, hl, wj, wl, nj, nl, f1, f2, f3, f4, f5, f6, f7]
end Go.Proofs.Ytifahndnjihfoaa
