/- Functions of the seat, worked off from their code: chunk ham. Written by program (tools/mkp.py) from wip/fn. -/
import Derived.Test.YtfnknlaaaiekpaaSimT
import Derived.Test.YtfnknlaaaiekpaaSimFacts
import Derived.Test.YtfnknlaaaiekpaaPbits
import Derived.Test.YtfnknlaaaiekpaaPones
set_option maxRecDepth 100000
set_option maxHeartbeats 4000000
set_option linter.unusedSimpArgs false
set_option linter.unusedVariables false
namespace Go.Proofs.Ytfnknlaaaiekpaa
open Go Go.Sim
attribute [local congr] ite_congr go_congr goOps_congr stepK_congr ret_congr headK_congr condK_congr guardK_congr
attribute [local simp] go_skip go_ret go_exit go_region go_seq go_cond go_block go_loop ret_nil ret_seq ret_seq_exit ret_seq_ret ret_blk ret_blk_ret ret_blk_exit ret_loop ret_loop_exit ret_loop_ret loopK_head goOps_nil goOps_cons goOps_guard stepK_some stepK_none stepK_ite guardK_true guardK_false guardK_bool condK_bool fin
attribute [local simp] runs denOp operand aget aput adel putD tidy trim getAll freezeAll freezeOne lentOut oneOrTup argEnv lentHeap ofConst ofScalar aCall lendAll lend lentApart lentFree readFree giveBack adopt aBin aUn L Ls mkA getRes asInt? bnd okRead okStore Ann.storeAt lendSize firstRegion List.find?_cons List.find?_nil
attribute [local simp] aInt_add aInt_sub aInt_mul aInt_quo aInt_rem aInt_and aInt_or aInt_xor aInt_andNot aInt_eql aInt_neq aInt_lss aInt_leq aInt_gtr aInt_geq aShift_shl aShift_shr
attribute [local simp] bAnd_u8 bOr_u8 bXor_u8 bAndNot_u8 bShl_u8 wrap_u8_range
attribute [local simp] aBuiltin slLen slCells aAppend newBlk blkOf putCells rdCells TI.isAgg aLoad aStore setR cutA aSlice aStrSlice fillA parts slElem fieldOf freezeSl freezeAgg AV.cells AV.solid AV.isRef repl
attribute [local simp] w_i64 w_u64 w_u8 all_plain_int all_plain_bool all_plain_app pl_bool pl_int pl_str pl_nilp pl_nsl pl_nilI pl_nilF pl_msl pl_ref pl_isl pl_fsl pl_agg take_map_len nat_not_neg int_beq int_bne Int.natCast_inj all_pc_bool all_pc_int all_take_bool all_drop_bool all_take_int all_drop_int
/-- The bytes of the sixteen numbers. -/
def hamL : List Nat := [0x15, 0x02, 0x49, 0x5e, 0x64, 0x73, 0x38, 0x2f, 0xd0, 0xc7, 0x8c, 0x9b, 0xa1, 0xb6, 0xfd, 0xea]
def hamB (n : Nat) : Nat := hamL.getD n 0
def putI (n : Int) : Int := (hamB (n % 16).toNat : Nat)
def bitI (n j : Int) : Int := n / ((2 ^ (j - 1).toNat : Nat) : Int) % 2
theorem bit_of (n : Int) (j : Nat) (hj : 1 ≤ j ∧ j ≤ 4) : bitI n j = bitI (n % 16) j := by
  have : j = 1 ∨ j = 2 ∨ j = 3 ∨ j = 4 := by omega
  unfold bitI
  rcases this with rfl | rfl | rfl | rfl <;> simp <;> omega
/-- What is true of all sixteen numbers. -/
theorem sixteen {P : Int → Prop} (h : ∀ r : Nat, r < 16 → P r) (n : Int) : P (n % 16) := by
  have := h (n % 16).toNat (by omega)
  rwa [show (((n % 16).toNat : Nat) : Int) = n % 16 from by omega] at this
theorem hamB_lt (n : Nat) : hamB n < 256 := by
  by_cases h : n < 16
  · revert n; decide
  · have : hamB n = 0 := by unfold hamB; rw [List.getD_eq_getElem?_getD, List.getElem?_eq_none (by simp [hamL]; omega)]; rfl
    omega
theorem putI_range (n : Int) : 0 ≤ putI n ∧ putI n < 256 := by
  have := hamB_lt (n % 16).toNat
  unfold putI; omega
attribute [local simp] putI_range
/-- The first number that does it. -/
def findN (p : Nat → Bool) : Nat → Nat → Nat × Bool
  | 0, _ => (0, false)
  | m + 1, k => if p k then (k, true) else findN p m (k + 1)
theorem upto_find {p : Nat → Bool} {l : List (Option (List AV))} : ∀ {m k : Nat}, upto p (fun k => some (.tup [.int .i64 (k : Int), .bool true], l)) (some (.tup [.int .i64 0, .bool false], l)) m k = some (.tup [.int .i64 ((findN p m k).1 : Int), .bool (findN p m k).2], l)
  | 0, k => rfl
  | m + 1, k => by
    unfold upto findN
    cases p k with
    | true => rfl
    | false => exact upto_find
def getN (b : Nat) : Nat × Bool := findN (fun k => decide (pop8 (b ^^^ hamB k) ≤ 1)) 16 0
theorem t_Put1 (tag : Nat) (n j : Int) (h1 : 1 ≤ j) (h4 : j ≤ 4) : callω L T 16 tag [.int .i64 j, .ref 1 (tag, 0) 0] [none, some [.int .i64 n]] = some (.int .u8 (bitI n j), [none, some [.int .i64 n]]) := by
  rw [call_go (show T 16 = some (.code a16) from rfl) rfl rfl]
  have e1 : IntKind.i64.wrap (j - 1) = ((j - 1).toNat : Nat) := by rw [w_i64 (by omega) (by omega)]; omega
  have e2 : ¬ ((j - 1).toNat : Int) < 0 := by omega
  have e3 : bShr .i64 n ((j - 1).toNat : Int) = n / ((2 ^ (j - 1).toNat : Nat) : Int) := shr_pow _ _ (by show (j - 1).toNat ≤ 64; omega)
  have e4 : IntKind.u8.wrap (bitI n j) = bitI n j := w_u8 (by unfold bitI; omega) (by unfold bitI; omega)
  simp only [bitI] at e4 ⊢
  generalize n / ((2 ^ (j - 1).toNat : Nat) : Int) = q at e3 e4 ⊢
  generalize (j - 1).toNat = i at e1 e2 e3
  have e2' : ¬ (i : Int) < 0 := e2
  simp [a16, Try.f16, e1, e3, e4, and_1]
theorem t_ham_Put (tag : Nat) (n : Int) : callω L T 8 tag [.int .i64 n] [none] = some (.int .u8 (putI n), [none]) := by
  rw [call_go (show T 8 = some (.code a8) from rfl) rfl rfl]
  simp [a8, Try.f8, t_Put1, t_parity_Even]
  have e0 : putI n = putI (n % 16) := by unfold putI; rw [Int.emod_emod_of_dvd n (Int.dvd_refl 16)]
  have b1 : bitI n 1 = bitI (n % 16) 1 := bit_of n 1 (by omega)
  have b2 : bitI n 2 = bitI (n % 16) 2 := bit_of n 2 (by omega)
  have b3 : bitI n 3 = bitI (n % 16) 3 := bit_of n 3 (by omega)
  have b4 : bitI n 4 = bitI (n % 16) 4 := bit_of n 4 (by omega)
  rw [mergeInt, b1, b2, b3, b4, e0]
  refine same_int ?_
  obtain ⟨r, hr, e⟩ : ∃ r : Nat, r < 16 ∧ n % 16 = r := ⟨(n % 16).toNat, by omega, by omega⟩
  rw [e]
  clear e e0 b1 b2 b3 b4
  revert r
  decide +kernel
theorem t_ham_Get (tag : Nat) (n : Nat) (hn : n < 256) : callω L T 10 tag [.int .u8 n] [none] = some (.tup [.int .i64 (getN n).1, .bool (getN n).2], [none]) := by
  rw [call_go (show T 10 = some (.code a10) from rfl) rfl rfl]
  simp [a10, Try.f10]
  refine Eq.trans (headK_upto (fun k => { env := [(0, AV.int .u8 n), (5, .int .i64 (k : Int))], heap := [], next := 1, tag := tag }) 16 (fun k => decide (pop8 (n ^^^ hamB k) ≤ 1)) (fun k => some (.tup [.int .i64 (k : Int), .bool true], [none])) (some (.tup [.int .i64 0, .bool false], [none])) ?_ ?_ 16 0 rfl) upto_find
  · intro k hk
    have e1 : putI (k : Int) = (hamB k : Nat) := by unfold putI; rw [show ((k : Int) % 16).toNat = k from by omega]
    have e2 : bXor .u8 (n : Int) (hamB k : Nat) = ((n ^^^ hamB k : Nat) : Int) := xor8 hn (hamB_lt k)
    have e3 : n ^^^ hamB k < 256 := Nat.xor_lt_two_pow (n := 8) hn (hamB_lt k)
    have e4 : ((n ^^^ hamB k : Nat) : Int) < 256 := by omega
    have e5 : IntKind.i64.wrap ((k : Int) + 1) = (k : Int) + 1 := w_i64 (by omega) (by omega)
    have e6 : (k : Int) < 16 := by omega
    have e7 : ((pop8 (n ^^^ hamB k) : Nat) : Int) ≤ 1 ↔ pop8 (n ^^^ hamB k) ≤ 1 := by omega
    simp [hk, t_ham_Put, e1, e2, e4, e5, e6, e7, t_OnesCount8]
  · simp
theorem t_law2_first (tag : Nat) : callω L T 7 tag [] [] = some (.bool true, []) := by
  rw [call_go (show T 7 = some (.code a7) from rfl) rfl rfl]
  have h1 : putI 0 = 0x15 := by decide
  have h2 : putI 15 = 0xea := by decide
  simp [a7, Try.f7, t_ham_Put, h1, h2]
theorem t_Number (tag : Nat) (n b : Int) (hb : 0 < b) (hb' : b < 1000000) : callω L T 15 tag [.int .i64 n, .int .i64 b] [none, none] = some (.int .i64 (n % b), [none, none]) := by
  rw [call_go (show T 15 = some (.code a15) from rfl) rfl rfl]
  have h0 : b ≠ 0 := by omega
  have h1 : (n.tmod b < 0 → IntKind.i64.wrap (n.tmod b + b) = n % b) ∧ (¬ n.tmod b < 0 → n.tmod b = n % b) := by
    have q1 := Int.emod_nonneg n h0
    have q2 := Int.emod_lt_of_pos n hb
    have q3 : n.tmod b = if 0 ≤ n ∨ b ∣ n then n % b else n % b - b := by
      rw [Int.tmod_eq_emod]
      have : (b.natAbs : Int) = b := by omega
      split <;> simp [this]
    split at q3
    · exact ⟨fun h => by omega, fun _ => q3⟩
    · exact ⟨fun h => by rw [q3, w_i64 (by omega) (by omega)]; omega, fun h => by omega⟩
  by_cases hn : n.tmod b < 0
  · simp [a15, Try.f15, h0, hn, h1.1 hn]
  · have hn' : ¬ n % b < 0 := by rw [← h1.2 hn]; exact hn
    simp [a15, Try.f15, h0, hn', h1.2 hn]
def preN (r : Nat) : Nat := hamB r &&& 0xbf
theorem pre_eq (n : Int) : bOr .i64 (bOr .i64 (bOr .i64 (bOr .i64 (bOr .i64 (bOr .i64 (bShl .i64 (bAnd .i64 n 1) 1) (bShl .i64 (bAnd .i64 (bShr .i64 n 1) 1) 3)) (bShl .i64 (bAnd .i64 (bShr .i64 n 2) 1) 5)) (bShl .i64 (bAnd .i64 (bShr .i64 n 3) 1) 7)) (bXor .i64 (bXor .i64 (bXor .i64 1 (bAnd .i64 n 1)) (bAnd .i64 (bShr .i64 n 2) 1)) (bAnd .i64 (bShr .i64 n 3) 1))) (bShl .i64 (bXor .i64 (bXor .i64 (bXor .i64 1 (bAnd .i64 n 1)) (bAnd .i64 (bShr .i64 n 1) 1)) (bAnd .i64 (bShr .i64 n 3) 1)) 2)) (bShl .i64 (bXor .i64 (bXor .i64 (bXor .i64 1 (bAnd .i64 n 1)) (bAnd .i64 (bShr .i64 n 1) 1)) (bAnd .i64 (bShr .i64 n 2) 1)) 4) = ((preN (n % 16).toNat : Nat) : Int) := by
  have b1 : bAnd .i64 n 1 = bitI (n % 16) 1 := by rw [and_1]; simp [bitI]
  have s1 : bShr .i64 n 1 = n / 2 := shr_pow _ n (s := 1) (by decide)
  have s2 : bShr .i64 n 2 = n / 4 := shr_pow _ n (s := 2) (by decide)
  have s3 : bShr .i64 n 3 = n / 8 := shr_pow _ n (s := 3) (by decide)
  have b2 : bAnd .i64 (bShr .i64 n 1) 1 = bitI (n % 16) 2 := by rw [and_1, s1]; simp [bitI]; omega
  have b3 : bAnd .i64 (bShr .i64 n 2) 1 = bitI (n % 16) 3 := by rw [and_1, s2]; simp [bitI]; omega
  have b4 : bAnd .i64 (bShr .i64 n 3) 1 = bitI (n % 16) 4 := by rw [and_1, s3]; simp [bitI]; omega
  rw [b1, b2, b3, b4]
  obtain ⟨r, hr, e⟩ : ∃ r : Nat, r < 16 ∧ n % 16 = r := ⟨(n % 16).toNat, by omega, by omega⟩
  rw [e]
  clear e b1 b2 b3 b4 s1 s2 s3
  revert r
  decide +kernel
theorem t_ref1_Put (tag : Nat) (n : Int) : callω L T 13 tag [.int .i64 n] [none] = some (.int .u8 (putI n), [none]) := by
  rw [call_go (show T 13 = some (.code a13) from rfl) rfl rfl]
  have hp : preN (n % 16).toNat < 9223372036854775808 := by
    have : preN (n % 16).toNat ≤ 0xbf := Nat.and_le_right
    omega
  simp [a13, Try.f13, pre_eq, t_ones _ _ hp]
  rw [mergeInt]
  refine same_int ?_
  unfold putI
  obtain ⟨r, hr, e⟩ : ∃ r : Nat, r < 16 ∧ n % 16 = r := ⟨(n % 16).toNat, by omega, by omega⟩
  rw [e]
  clear e hp
  revert r
  decide +kernel
theorem t_ref1_Get (tag : Nat) (n : Nat) (hn : n < 256) : callω L T 11 tag [.int .u8 n] [none] = some (.tup [.int .i64 (getN n).1, .bool (getN n).2], [none]) := by
  rw [call_go (show T 11 = some (.code a11) from rfl) rfl rfl]
  simp [a11, Try.f11]
  refine Eq.trans (headK_upto (fun k => { env := [(0, AV.int .u8 n), (4, .int .i64 (k : Int))], heap := [], next := 1, tag := tag }) 16 (fun k => decide (pop8 (n ^^^ hamB k) ≤ 1)) (fun k => some (.tup [.int .i64 (k : Int), .bool true], [none])) (some (.tup [.int .i64 0, .bool false], [none])) ?_ ?_ 16 0 rfl) upto_find
  · intro k hk
    have e1 : putI (k : Int) = (hamB k : Nat) := by unfold putI; rw [show ((k : Int) % 16).toNat = k from by omega]
    have e2 : bXor .u8 (hamB k : Nat) (n : Int) = ((n ^^^ hamB k : Nat) : Int) := by rw [xor8 (hamB_lt k) hn, Nat.xor_comm]
    have e3 : n ^^^ hamB k < 256 := Nat.xor_lt_two_pow (n := 8) hn (hamB_lt k)
    have e5 : IntKind.i64.wrap ((k : Int) + 1) = (k : Int) + 1 := w_i64 (by omega) (by omega)
    have e6 : (k : Int) < 16 := by omega
    have e7 : ((pop8 (n ^^^ hamB k) : Nat) : Int) ≤ 1 ↔ pop8 (n ^^^ hamB k) ≤ 1 := by omega
    have e8 : IntKind.i64.wrap ((n ^^^ hamB k : Nat) : Int) = ((n ^^^ hamB k : Nat) : Int) := w_i64 (by omega) (by omega)
    have e9 := t_ones (tag + 1) (n ^^^ hamB k) (by omega)
    rw [popF_byte e3] at e9
    simp [hk, t_ref1_Put, e1, e2, e5, e6, e7, e8, e9]
  · simp
theorem t_ham_Row (tag : Nat) (xs : List Int) (hl : xs.length < 1000000) : callω L T 12 tag [.isl 1 xs.length (xs.map (.int .i64))] [none] = some (.fsl 1 xs.length (xs.map fun x => .int .u8 (putI x)), [none]) := by
  rw [call_go (show T 12 = some (.code a12) from rfl) rfl rfl]
  simp [a12, Try.f12]
  refine Eq.trans (headK_push (fun k c g nx => { env := [(3, AV.msl 3 (tag, g) 1 0 k), (6, .isl 1 xs.length (xs.map (.int .i64))), (7, .int .i64 xs.length), (8, .int .i64 k)], heap := [(3, { stamp := (tag, g), cells := c })], next := nx, tag := tag }) xs.length (fun _ => false) (fun k => .int .u8 (putI (xs.getD k 0))) (fun _ => none) (some (.fsl 1 xs.length (xs.map fun x => .int .u8 (putI x)), [none])) ?_ ?_ xs.length 0 2 3 (by omega) rfl) (upto_none (by simp))
  · intro k c g nx hk hc hp
    have h3 : k + 1 ≤ 140737488355328 := by omega
    refine ⟨by simp, fun _ => ⟨rfl, ?_⟩⟩
    simp [hk, hc, h3, t_ham_Put, wrap_succ hk (by omega)]
    exact ⟨_, _, rfl⟩
  · intro g nx hp
    rw [range_map (0 : Int) xs (fun x => AV.int .u8 (putI x))] at hp ⊢
    simp [allP hp]
def openOk (xs : List Int) : Bool := xs.all fun x => (getN x.toNat).2
def openL (xs : List Int) : List Int := if openOk xs then xs.map fun x => ((getN x.toNat).1 : Int) else []
theorem t_ham_Open (tag : Nat) (xs : List Int) (hx : ∀ x ∈ xs, 0 ≤ x ∧ x < 256) (hl : xs.length < 1000000) : callω L T 14 tag [.isl 1 xs.length (xs.map (.int .u8))] [none] = some (.tup [.fsl 1 (openL xs).length ((openL xs).map (.int .i64)), .bool (openOk xs)], [none]) := by
  rw [call_go (show T 14 = some (.code a14) from rfl) rfl rfl]
  simp [a14, Try.f14]
  refine Eq.trans (headK_push (fun k c g nx => { env := [(4, AV.msl 4 (tag, g) 1 0 k), (9, .isl 1 xs.length (xs.map (.int .u8))), (10, .int .i64 xs.length), (11, .int .i64 k)], heap := [(4, { stamp := (tag, g), cells := c })], next := nx, tag := tag }) xs.length (fun k => !(getN (xs.getD k 0).toNat).2) (fun k => .int .i64 (getN (xs.getD k 0).toNat).1) (fun _ => some (.tup [.fsl 1 0 [], .bool false], [none])) (some (.tup [.fsl 1 xs.length (xs.map fun x => .int .i64 (getN x.toNat).1), .bool true], [none])) ?_ ?_ xs.length 0 2 3 (by omega) rfl) ?_
  · intro k c g nx hk hc hp
    have h3 : (k + 1) * 8 ≤ 140737488355328 := by omega
    have hm := hx xs[k] (List.getElem_mem hk)
    have hG := t_ham_Get (tag + 1) xs[k].toNat (by omega)
    rw [show ((xs[k].toNat : Nat) : Int) = xs[k] from by omega] at hG
    constructor
    · intro hq
      simp [hk] at hq
      simp [hk, hc, h3, hG, hq]
    · intro hq
      simp [hk] at hq
      refine ⟨rfl, ?_⟩
      simp [hk, hc, h3, hG, hq, wrap_succ hk (by omega)]
      exact ⟨_, _, rfl⟩
  · intro g nx hp
    rw [range_map (0 : Int) xs (fun x => AV.int .i64 (getN x.toNat).1)] at hp ⊢
    simp [allP hp]
  · rw [upto_const]
    by_cases ho : openOk xs = true
    · rw [if_neg, openL, if_pos ho, ho]
      · simp
      · rintro ⟨j, _, h2, h3⟩
        have hj : j < xs.length := by omega
        have := List.all_eq_true.1 ho xs[j] (List.getElem_mem hj)
        simp [hj] at h3
        rw [h3] at this
        cases this
    · rw [if_pos, openL, if_neg ho]
      · simp [ho]
      · rw [openOk, List.all_eq_true] at ho
        simp only [Classical.not_forall] at ho
        obtain ⟨x, hx1, hx2⟩ := ho
        obtain ⟨j, hj, rfl⟩ := List.getElem_of_mem hx1
        exact ⟨j, by omega, by omega, by simpa [hj] using hx2⟩

end Go.Proofs.Ytfnknlaaaiekpaa
