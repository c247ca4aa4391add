/- Part of the proof: an interpreter of the model, proved sound, and what it makes of the functions. -/
import Derived.Test.YtbaenaalfpcaaaaGreatDoorA5
import Derived.Test.YtbaenaalfpcaaaaGreatDoorA4
set_option linter.unusedVariables false
set_option linter.unusedSimpArgs false
set_option maxRecDepth 100000
set_option maxHeartbeats 40000000
namespace Go.Proofs.YtbaenaalfpcaaaaGreatDoor
open Go Go.Sim
attribute [local irreducible] chk brX hX finH keyX visit packed backPk backOk backHeap stays getAll getX strX setX takeX normX fillX lendX partsX opsX callK lentK lentR giveX adoptX resX joinX headX loopX seqK blkK regK finX exOps ex eqT finMX matAll
attribute [local simp] zc2 zbg zbd zau zbm zb6 List.getElem?_cons_zero List.getElem?_cons_succ List.getElem?_nil w_i64 w_u64 w_u8 zcu bOr_u8 zcv zb3 zd0 zaj zar zao zaq zcy pl_int pl_str zcz pl_nsl zd1 zcx zag AV.cells TI.isAgg
section
def pop8 (n : Nat) : Nat := n % 2 + n / 2 % 2 + n / 4 % 2 + n / 8 % 2 + n / 16 % 2 + n / 32 % 2 + n / 64 % 2 + n / 128 % 2
theorem pop8_lt (n : Nat) : pop8 n < 256 := by unfold pop8; omega
def oddI (x : Int) : Bool := (pop8 x.toNat : Int).tmod 2 == 1
def makeOddI (x : Int) : Int := if oddI (bAnd .u8 x 127) then bAnd .u8 x 127 else bOr .u8 (bAnd .u8 x 127) 128
def makeEvenI (x : Int) : Int := bXor .u8 (makeOddI x) 128
def byteB (p : Int → Bool) : Bool := allB (fun n => p n) 256
theorem zcs {p : Int → Bool} (h : byteB p = true) {x : Int} (h0 : 0 ≤ x) (h1 : x < 256) : p x = true := by
 have := zmc (p := fun n => p n) h (i := x.toNat) (by omega)
 rwa [show ((x.toNat : Nat) : Int) = x from by omega] at this
theorem and127 {x : Int} (h0 : 0 ≤ x) (h1 : x < 256) : bAnd .u8 x 127 = x % 128 := by
 have := zcs (p := fun x => bAnd .u8 x 127 == x % 128) (by decide +kernel) h0 h1
 simpa using this
def popTab : ByteArray := { data := (([0, 1, 1, 2, 1, 2, 2, 3, 1, 2, 2, 3, 2, 3, 3, 4, 1, 2, 2, 3, 2, 3, 3, 4, 2, 3, 3, 4, 3, 4, 4, 5, 1, 2, 2, 3, 2, 3, 3, 4, 2, 3, 3, 4, 3, 4, 4, 5, 2, 3, 3, 4, 3, 4, 4, 5, 3, 4, 4, 5, 4, 5, 5, 6].append [1, 2, 2, 3, 2, 3, 3, 4, 2, 3, 3, 4, 3, 4, 4, 5, 2, 3, 3, 4, 3, 4, 4, 5, 3, 4, 4, 5, 4, 5, 5, 6, 2, 3, 3, 4, 3, 4, 4, 5, 3, 4, 4, 5, 4, 5, 5, 6, 3, 4, 4, 5, 4, 5, 5, 6, 4, 5, 5, 6, 5, 6, 6, 7]).append ([1, 2, 2, 3, 2, 3, 3, 4, 2, 3, 3, 4, 3, 4, 4, 5, 2, 3, 3, 4, 3, 4, 4, 5, 3, 4, 4, 5, 4, 5, 5, 6, 2, 3, 3, 4, 3, 4, 4, 5, 3, 4, 4, 5, 4, 5, 5, 6, 3, 4, 4, 5, 4, 5, 5, 6, 4, 5, 5, 6, 5, 6, 6, 7].append [2, 3, 3, 4, 3, 4, 4, 5, 3, 4, 4, 5, 4, 5, 5, 6, 3, 4, 4, 5, 4, 5, 5, 6, 4, 5, 5, 6, 5, 6, 6, 7, 3, 4, 4, 5, 4, 5, 5, 6, 4, 5, 5, 6, 5, 6, 6, 7, 4, 5, 5, 6, 5, 6, 6, 7, 5, 6, 6, 7, 6, 7, 7, 8])).toArray }
theorem popTab_get : ∀ n < 256, popTab[n]? = some (UInt8.ofNat (pop8 n)) := by decide +kernel
theorem znd (tag : Nat) (x : Int) (h0 : 0 ≤ x) (h : x < 256) : callω L T 196 tag [.int .u8 x] [none] = some (.int .i64 (pop8 x.toNat), [none]) := by
 rw [za5 (show T 196 = some (.code a196) from rfl) rfl rfl]
 obtain ⟨n, rfl⟩ : ∃ n : Nat, x = n := ⟨x.toNat, by omega⟩
 have hn : n < 256 := by omega
 have hs := popTab_get n hn
 have hp : pop8 n < 256 := pop8_lt n
 unfold popTab at hs
 (have fA := @hs; refine gox ?_; clear fA)
 (refine finx ?_; try with_reducible rfl)
 rw [show (UInt8.ofNat (pop8 n)).toNat = pop8 n from by simp [Nat.mod_eq_of_lt hp], w_i64 (by omega) (by omega)]
 rfl
theorem zht (tag : Nat) (x : Int) (h0 : 0 ≤ x) (h : x < 256) : callω L T 165 tag [.int .u8 x] [none] = some (.bool (oddI x), [none]) := by
 rw [za5 (show T 165 = some (.code a165) from rfl) rfl rfl]
 (have c1 := fun x1 => znd x1 x h0 h; refine gox ?_; clear c1)
 (refine finx ?_; try with_reducible rfl)
 try rfl
theorem zgn (tag : Nat) (x : Int) (h0 : 0 ≤ x) (h : x < 256) : callω L T 221 tag [.int .u8 x] [none] = some (.bool (!oddI x), [none]) := by
 rw [za5 (show T 221 = some (.code a221) from rfl) rfl rfl]
 (have c1 := fun x1 => zht x1 x h0 h; refine gox ?_; clear c1)
 (refine finx ?_; try with_reducible rfl)
 try rfl
theorem zi2 (tag : Nat) (x : Int) : callω L T 181 tag [.int .u8 x] [none] = some (.int .u8 (makeOddI x), [none]) := by
 rw [za5 (show T 181 = some (.code a181) from rfl) rfl rfl]
 have hr : 0 ≤ bAnd .u8 x 127 ∧ bAnd .u8 x 127 < 256 := by simp
 have c0 := fun tag => zht tag _ hr.1 hr.2
 unfold makeOddI
 cases ho : oddI (bAnd .u8 x 127) with
 | true =>
  rw [ho] at c0
  (have c1 := fun x1 => c0 x1; refine gox ?_; clear c1)
  (refine finx ?_; try with_reducible rfl)
  try rfl
 | false =>
  rw [ho] at c0
  (have c1 := fun x1 => c0 x1; refine gox ?_; clear c1)
  (refine finx ?_; try with_reducible rfl)
  try rfl
theorem zh9 (tag : Nat) (x : Int) : callω L T 132 tag [.int .u8 x] [none] = some (.int .u8 (makeEvenI x), [none]) := by
 rw [za5 (show T 132 = some (.code a132) from rfl) rfl rfl]
 (have c1 := fun x1 => zi2 x1 x; refine gox ?_; clear c1)
 (refine finx ?_; try with_reducible rfl)
 try rfl
def popF : Nat → Nat → Nat
 | 0, _ => 0
 | f + 1, n => n % 2 + popF f (n / 2)
theorem zmp : ∀ (f : Nat), popF f 0 = 0
 | 0 => rfl
 | f + 1 => by unfold popF; simp [zmp f]
theorem popF_byte {n : Nat} (h : n < 256) : popF 63 n = pop8 n := by
 have : allB (fun n => Nat.beq (popF 63 n) (pop8 n)) 256 = true := by decide +kernel
 exact Nat.eq_of_beq_eq_true (zmc (p := fun n => Nat.beq (popF 63 n) (pop8 n)) this h)
theorem t_ones (tag : Nat) (n : Nat) (hn : n < 256) : callω L T 161 tag [.int .i64 n] [none] = some (.int .i64 (pop8 n), [none]) := by
 rw [← popF_byte hn]
 rw [za5 (show T 161 = some (.code a161) from rfl) rfl rfl]
 (refine gox ?_)
 refine Eq.trans (headX_ind (X := Nat × Nat × Nat) (fun x => ⟨[(0, .int .i64 (x.2.1 : Int)), (3, .int .i64 (x.2.2 : Int))], [], 1, tag⟩) (fun x => some (.int .i64 ((x.2.2 + popF x.1 x.2.1 : Nat) : Int), [none])) (fun x => x.1) (fun x => x.2.1 < 2 ^ x.1 ∧ x.1 ≤ 63 ∧ x.2.2 + x.1 ≤ 63) ?_ (63, n, 0) (by simp; omega)) (by simp)
 rintro ⟨f, n, k⟩ ⟨h1, h2, h3⟩ ih
 simp only at h1 h2 h3 ih ⊢
 have e1 : bAnd .i64 (n : Int) 1 = (n : Int) % 2 := by
  have := Nat.pow_le_pow_right (n := 2) (by omega) h2
  rw [show (1 : Int) = ((1 : Nat) : Int) from rfl, and64 (by omega) (by omega), zpn]; rfl
 have e2 : bShr .i64 (n : Int) 1 = (n : Int) / 2 := by
  rw [show (1 : Int) = ((1 : Nat) : Int) from rfl, shr_nat _ (by decide), shr_one]; rfl
 have e3 : IntKind.i64.wrap ((k : Int) + (n : Int) % 2) = ((k + n % 2 : Nat) : Int) := by rw [w_i64 (by omega) (by omega)]; omega
 cases f with
 | zero =>
  have hp : ¬ (0 : Int) < (n : Int) := by omega
  (refine gox ?_)
  (refine finx ?_; try with_reducible rfl)
  rw [show n = 0 from by omega]; rfl
 | succ f =>
  by_cases h0 : (0 : Int) < (n : Int)
  ·(refine gox ?_)
   refine Eq.trans (zaa (env' := [(0, .int .i64 ((n / 2 : Nat) : Int)), (3, .int .i64 ((k + n % 2 : Nat) : Int))]) (by rw [e1, e2, e3]; rfl) rfl rfl) ?_
   refine (ih (f, n / 2, k + n % 2) ⟨by simp only; omega, by simp only; omega, by simp only; omega⟩ (by simp)).trans ?_
   simp [popF, Int.add_assoc]
  ·(refine gox ?_)
   (refine finx ?_; try with_reducible rfl)
   have : n = 0 := by omega
   subst this
   simp [popF, zmp]
theorem t_ref1_Odd (tag : Nat) (x : Int) (h0 : 0 ≤ x) (h : x < 256) : callω L T 131 tag [.int .u8 x] [none] = some (.bool (oddI x), [none]) := by
 obtain ⟨n, rfl⟩ : ∃ n : Nat, x = n := ⟨x.toNat, by omega⟩
 rw [za5 (show T 131 = some (.code a131) from rfl) rfl rfl]
 have hw : IntKind.i64.wrap (n : Int) = (n : Int) := w_i64 (by omega) (by omega)
 have c0 : ∀ tag, callω L T 161 tag [.int .i64 (IntKind.i64.wrap (n : Int))] [none] = some (.int .i64 (pop8 n), [none]) := fun tag => by rw [hw]; exact t_ones tag n (by omega)
 (have fA := @hw; have c1 := fun x1 => c0 x1; refine gox ?_; clear fA c1)
 (refine finx ?_; try with_reducible rfl)
 try rfl
theorem zk1 (tag : Nat) (x : Int) : callω L T 85 tag [.int .u8 x] [none] = some (.int .u8 (makeOddI x), [none]) := by
 rw [za5 (show T 85 = some (.code a85) from rfl) rfl rfl]
 have hr : 0 ≤ bAnd .u8 x 127 ∧ bAnd .u8 x 127 < 256 := by simp
 have c0 := fun tag => t_ref1_Odd tag _ hr.1 hr.2
 unfold makeOddI
 cases ho : oddI (bAnd .u8 x 127) with
 | true =>
  rw [ho] at c0
  (have c1 := fun x1 => c0 x1; refine gox ?_; clear c1)
  (refine finx ?_; try with_reducible rfl)
  try rfl
 | false =>
  rw [ho] at c0
  (have c1 := fun x1 => c0 x1; refine gox ?_; clear c1)
  (refine finx ?_; try with_reducible rfl)
  try rfl
theorem zbc (tag : Nat) (x : Int) : callω L T 36 tag [.int .u8 x] [none] = some (.int .u8 (makeEvenI x), [none]) := by
 rw [za5 (show T 36 = some (.code a36) from rfl) rfl rfl]
 (have c1 := fun x1 => zk1 x1 x; refine gox ?_; clear c1)
 (refine finx ?_; try with_reducible rfl)
 try rfl
end
section
structure Ev where
 kind : Int
 a : Int
 b : Int
 c : Int
 d : Int
 set : Int
 code : Int
 deriving DecidableEq
def Ev.enc (s : Ev) : List AV := [.int .i64 s.kind, .int .i64 s.a, .int .i64 s.b, .int .i64 s.c, .int .i64 s.d, .int .i64 s.set, .int .i64 s.code]
theorem Ev.len (s : Ev) : s.enc.length = 7 := rfl
theorem Ev.flen (xs : List Ev) : (flat Ev.enc xs).length = xs.length * 7 := zhk Ev.len xs
theorem Ev.pl (xs : List Ev) : (flat Ev.enc xs).all AV.plain = true := zjn (fun _ => rfl) xs
theorem Ev.rd {xs : List Ev} {i : Nat} (h : i < xs.length) : ((flat Ev.enc xs).drop (i * 7)).take 7 = [.int .i64 xs[i].kind, .int .i64 xs[i].a, .int .i64 xs[i].b, .int .i64 xs[i].c, .int .i64 xs[i].d, .int .i64 xs[i].set, .int .i64 xs[i].code] := flt_rd Ev.len h
attribute [local simp] Ev.flen Ev.rd Ev.enc
def evI : Ev := ⟨12, 0, 0, 0, 0, 0, 0⟩
def ev1 (k a : Int) : Ev := ⟨k, a, 0, 0, 0, 0, 0⟩
def evC (s c : Int) : Ev := ⟨1, 0, 0, 0, 0, s, c⟩
theorem zb7 (tag : Nat) : callω L T 223 tag [] [] = some (.fsl 7 1 (flat Ev.enc [evI]), []) := by
 rw [za5 (show T 223 = some (.code a223) from rfl) rfl rfl]
 (refine gox ?_)
 (refine finx ?_; try with_reducible rfl)
 try rfl
theorem t_one (tag : Nat) (k a : Int) : callω L T 226 tag [.int .i64 k, .int .i64 a] [none, none] = some (.fsl 7 1 (flat Ev.enc [ev1 k a]), [none, none]) := by
 rw [za5 (show T 226 = some (.code a226) from rfl) rfl rfl]
 (refine gox ?_)
 (refine finx ?_; try with_reducible rfl)
 try rfl
theorem t_char (tag : Nat) (s c : Int) (h0 : 0 ≤ c) (h : c < 256) : callω L T 225 tag [.int .i64 s, .int .u8 c] [none, none] = some (.fsl 7 1 (flat Ev.enc [evC s c]), [none, none]) := by
 rw [za5 (show T 225 = some (.code a225) from rfl) rfl rfl]
 (refine gox ?_)
 (refine finx ?_; try with_reducible rfl)
 rw [w_i64 (by omega) (by omega)]
 try rfl
theorem t_isAccent (tag : Nat) (c : Int) : callω L T 270 tag [.int .u8 c] [none] = some (.bool (decide (c = 65 ∨ c = 66 ∨ c = 67 ∨ c = 72 ∨ c = 75)), [none]) := by
 rw [za5 (show T 270 = some (.code a270) from rfl) rfl rfl]
 by_cases h1 : c = 65
 ·(refine gox ?_)
  (refine finx ?_; try with_reducible rfl)
  simp [h1]
 by_cases h2 : c = 66
 ·(refine gox ?_)
  (refine finx ?_; try with_reducible rfl)
  simp [h2]
 by_cases h3 : c = 67
 ·(refine gox ?_)
  (refine finx ?_; try with_reducible rfl)
  simp [h3]
 by_cases h4 : c = 72
 ·(refine gox ?_)
  (refine finx ?_; try with_reducible rfl)
  simp [h4]
 by_cases h5 : c = 75
 ·(refine gox ?_)
  (refine finx ?_; try with_reducible rfl)
  simp [h5]
 (refine gox ?_)
 (refine finx ?_; try with_reducible rfl)
 simp [h1, h2, h3, h4, h5]
end
section
attribute [local simp] Ev.flen Ev.rd Ev.enc
abbrev LX := List Int × Int × List Ev
def lxGo (p : List Int) (sh c : Int) : LX := (p ++ [c], sh, [])
def lxEnd (sh : Int) (es : List Ev) : LX := ([], sh, es)
def ctlE (c : Int) : List Ev :=
 if c = 7 then [ev1 8 0] else if 8 ≤ c ∧ c ≤ 11 then [⟨2, c - 7, 1, 0, 0, 0, 0⟩] else if c = 13 then [ev1 2 5] else if c = 12 then [ev1 3 1] else if c = 24 then [ev1 3 2] else
 if c = 17 then [ev1 9 1] else if c = 20 then [ev1 9 0] else if c = 26 then [evC 0 127] else if c = 30 then [ev1 4 0] else [evI]
def ctl (p : List Int) (sh c : Int) : LX :=
 if c = 18 ∨ c = 25 ∨ c = 27 ∨ c = 31 then ([c], sh, []) else if c = 14 then (p, 1, []) else if c = 15 then (p, 0, []) else (p, sh, ctlE c)
def accB (c : Int) : Bool := decide (c = 65 ∨ c = 66 ∨ c = 67 ∨ c = 72 ∨ c = 75)
def sgn (p : List Int) (sh c : Int) : LX := if 1 < p.length then lxEnd sh [⟨1, p.getD 1 0, 0, 0, 0, 2, c⟩] else if accB c = true then lxGo p sh c else lxEnd sh [evC 2 c]
def plc (p : List Int) (sh c : Int) : LX := if p.length < 2 then lxGo p sh c else if p.getD 1 0 < 64 ∨ c < 64 then lxEnd sh [evI] else lxEnd sh [⟨5, bAnd .u8 (p.getD 1 0) 63, bAnd .u8 c 63, 0, 0, 0, 0⟩]
def ask (p : List Int) (sh c : Int) : LX := if ((p ++ [c]).drop 2).length < (p.getD 1 0 - 56).toNat then lxGo p sh c else
 lxEnd sh [⟨10, p.getD 1 0 - 56, ((p ++ [c]).drop 2).getD 0 0, ((p ++ [c]).drop 2).getD 1 0, ((p ++ [c]).drop 2).getD 2 0, 0, 0⟩]
structure Nm where
 n : Int
 m : Int
 k : Int
def nmStep (s : Nm) (c : Int) : Nm := if c = 59 then { s with k := s.k + 1 } else if 48 ≤ c ∧ c ≤ 57 ∧ s.k < 2 then
 (if s.k = 0 then { s with n := min (10 * s.n + (c - 48)) 100 } else { s with m := min (10 * s.m + (c - 48)) 100 }) else s
def nmOk (s : Nm) (j : Nat) : Prop := 0 ≤ s.n ∧ s.n ≤ 100 ∧ 0 ≤ s.m ∧ s.m ≤ 100 ∧ 0 ≤ s.k ∧ s.k ≤ j
theorem nmStep_ok {s : Nm} {j : Nat} {c : Int} (h : nmOk s j) : nmOk (nmStep s c) (j + 1) := by
 obtain ⟨h1, h2, h3, h4, h5, h6⟩ := h
 unfold nmStep
 split
 ·refine ⟨h1, h2, h3, h4, ?_, ?_⟩ <;> simp only <;> omega
 ·split
  ·split
   ·refine ⟨?_, ?_, h3, h4, h5, ?_⟩ <;> simp only <;> omega
   ·refine ⟨h1, h2, ?_, ?_, h5, ?_⟩ <;> simp only <;> omega
  ·exact ⟨h1, h2, h3, h4, h5, by omega⟩
def nms (b : List Int) : Nm := b.foldl nmStep ⟨0, 0, 0⟩
def nm1 (b : List Int) : Int := min (nms b).n 99
def nm2 (b : List Int) : Int := min (nms b).m 99
def mx1 (x : Int) : Int := if 1 > x then 1 else x
def endE (b : List Int) (c : Int) : List Ev :=
 if 65 ≤ c ∧ c ≤ 68 then [⟨2, 69 - c, mx1 (nm1 b), 0, 0, 0, 0⟩] else if c = 72 then [⟨5, mx1 (nm1 b), mx1 (nm2 b), 0, 0, 0, 0⟩] else
 if c = 74 ∨ c = 75 then [⟨11, c - 73, nm1 b, 0, 0, 0, 0⟩] else [evI]
def sqn (p : List Int) (sh c : Int) : LX := if 48 ≤ c ∧ c < 64 ∧ (p.drop 2).length < 7 then lxGo p sh c else if c < 64 ∨ c = 127 then lxEnd sh [evI] else lxEnd sh (endE (p.drop 2) c)
def esc (p : List Int) (sh c : Int) : LX :=
 if 1 < p.length ∧ p.getD 1 0 = 91 then sqn p sh c else if 1 < p.length ∧ 57 ≤ p.getD 1 0 ∧ p.getD 1 0 ≤ 59 then ask p sh c else
 if c < 48 ∧ p.length < 15 then lxGo p sh c else if c < 48 ∨ 1 < p.length then lxEnd sh [evI] else if c = 91 ∨ (57 ≤ c ∧ c ≤ 59) then lxGo p sh c else
 if 64 ≤ c ∧ c ≤ 95 then lxEnd sh [ev1 6 c] else lxEnd sh [evI]
def lxC (b : Int) : Int := if oddI b then 26 else bAnd .u8 b 127
def lxB (p : List Int) (sh b : Int) : LX :=
 if lxC b < 32 then ((ctl [] sh (lxC b)).1, (ctl [] sh (lxC b)).2.1, (if 0 < p.length then [evI] else []) ++ (ctl [] sh (lxC b)).2.2) else
 if p.length = 0 then (p, sh, [evC sh (lxC b)]) else if p.getD 0 0 = 18 then lxEnd sh [ev1 7 (bAnd .u8 (lxC b) 63)] else if p.getD 0 0 = 25 then sgn p sh (lxC b) else
 if p.getD 0 0 = 31 then plc p sh (lxC b) else esc p sh (lxC b)
def lxOk (p : List Int) : Prop := (∀ x ∈ p, 0 ≤ x ∧ x < 128) ∧ p.length ≤ 15 ∧ (1 < p.length → p.getD 0 0 = 27 → 57 ≤ p.getD 1 0 → p.getD 1 0 ≤ 59 → p.length < 2 + (p.getD 1 0 - 56).toNat)
theorem zpa {b : Int} (h0 : 0 ≤ b) (h : b < 256) : 0 ≤ lxC b ∧ lxC b < 128 := by
 unfold lxC
 split
 ·omega
 ·have := zcs (p := fun x => decide (0 ≤ bAnd .u8 x 127 ∧ bAnd .u8 x 127 < 128)) (by decide +kernel) h0 h
  simpa using this
theorem za3 (l : List Ev) : shutL (flat Ev.enc l) = true := zd9 (Ev.pl l)
theorem za2 (t : Nat) (l : List Ev) : freeL t (flat Ev.enc l) = true := zdu t (Ev.pl l)
theorem zai {a b : List AV} {o : Nat} (n : Nat) (h : o = a.length + n) : (a ++ b)[o]? = b[n]? := by
 subst h
 simp [List.getElem?_append_right]
theorem zae {a b v : List AV} {o : Nat} (n : Nat) (h : o = a.length + n) : setR (a ++ b) o v = a ++ setR b n v := by
 subst h
 simp [setR, List.take_append, List.drop_append, show a.length + n + v.length - a.length = n + v.length from by omega, show a.length + n - a.length = n from by omega]
 rw [List.drop_eq_nil_of_le (by omega), List.take_of_length_le (by omega)]
 simp
theorem zqf (x : Int) : IntKind.i64.wrap (bAnd .u8 x 63) = bAnd .u8 x 63 := by
 have : 0 ≤ bAnd .u8 x 63 ∧ bAnd .u8 x 63 < 256 := by simp
 exact w_i64 (by omega) (by omega)
theorem toNat2 : Int.toNat 2 = 2 := rfl
theorem za1 (c : Int) : setR (List.map (AV.int IntKind.u8) (List.replicate 1 0)) 0 [AV.int IntKind.u8 c] = [AV.int .u8 c] := rfl
end
section
attribute [local simp] Ev.flen Ev.rd Ev.enc
theorem zaf (tag : Nat) (pre post : List AV) (hpre : pre.length = 28) (h1 : freeL tag pre = true) (h2 : freeL tag post = true) (p : List Int) (sh : Int) (evs : List Ev) :
  callH L T 222 tag [.ref 0 (tag, 0) 28, .msl 1 (tag, 0) 7 0 evs.length] [hb 0 (pre ++ .msl 1000028 (tag, 0) 1 0 p.length :: .int .i64 sh :: post), hb 1 (flat Ev.enc evs), hb 1000028 (p.map (.int .u8))] =
  some (.msl 1 (tag, 0) 7 0 evs.length, [hb 0 (pre ++ .msl 1000028 (tag, 0) 1 0 0 :: .int .i64 sh :: post), hb 1 (flat Ev.enc evs), hb 1000028 []]) := by
 refine (za8 (show T (222 + 1000000000) = some (.hcode a222) from rfl) rfl (by simp only [argEnv, Nat.reduceAdd]; apply Eq.refl) (by simp only [hb, hHeap]; apply Eq.refl)).trans ?_
 have l1 := zac h1
 have l2 := zac h2
 have u1 := zal h1
 have u2 := zal h2
 have s0 : ∀ b v, setR (pre ++ b) 28 v = pre ++ setR b 0 v := fun b v => zae 0 (by omega)
 have s1 : ∀ b v, setR (pre ++ b) 29 v = pre ++ setR b 1 v := fun b v => zae 1 (by omega)
 have g0 : ∀ b : List AV, (pre ++ b)[28]? = b[0]? := fun b => zai 0 (by omega)
 have g1 : ∀ b : List AV, (pre ++ b)[29]? = b[1]? := fun b => zai 1 (by omega)
 have tk : (List.map (AV.int IntKind.u8) p).take p.length = List.map (AV.int IntKind.u8) p := by simp
 (have fA := aI @hpre (aI @s0 (aI @s1 (aI @g0 (aI @g1 (aI @tk (aI @za1 (aI @l1 (aI @l2 (aI @h1 (aI @h2 (aI @u1 (aI @u2 (aI @za3 @za2))))))))))))); refine gox ?_; clear fA)
 (have fA := aI @hpre (aI @s0 (aI @s1 (aI @g0 (aI @g1 (aI @tk (aI @za1 (aI @l1 (aI @l2 (aI @h1 (aI @h2 (aI @u1 (aI @u2 (aI @za3 @za2))))))))))))); refine finhx ?_; clear fA; try with_reducible rfl)
 all_goals first | rfl | (simp only [List.map_append, List.map_cons, List.map_nil]; rfl)
theorem zb8 (tag : Nat) (pre post : List AV) (hpre : pre.length = 28) (h1 : freeL tag pre = true) (h2 : freeL tag post = true) (p : List Int) (sh : Int) (c : Int) (hp : p.length < 1000) :
  callH L T 271 tag [.ref 0 (tag, 0) 28, .int .u8 c] [hb 0 (pre ++ .msl 1000028 (tag, 0) 1 0 p.length :: .int .i64 sh :: post), hb 1000028 (p.map (.int .u8))] =
  some (.msl 400000 (tag, 0) 7 0 (lxGo p sh c).2.2.length, [hb 0 (pre ++ .msl 1000028 (tag, 0) 1 0 (lxGo p sh c).1.length :: .int .i64 (lxGo p sh c).2.1 :: post), hb 400000 (flat Ev.enc (lxGo p sh c).2.2), hb 1000028 ((lxGo p sh c).1.map (.int .u8))]) := by
 refine (za8 (show T (271 + 1000000000) = some (.hcode a271) from rfl) rfl (by simp only [argEnv, Nat.reduceAdd]; apply Eq.refl) (by simp only [hb, hHeap]; apply Eq.refl)).trans ?_
 have l1 := zac h1
 have l2 := zac h2
 have u1 := zal h1
 have u2 := zal h2
 have s0 : ∀ b v, setR (pre ++ b) 28 v = pre ++ setR b 0 v := fun b v => zae 0 (by omega)
 have s1 : ∀ b v, setR (pre ++ b) 29 v = pre ++ setR b 1 v := fun b v => zae 1 (by omega)
 have g0 : ∀ b : List AV, (pre ++ b)[28]? = b[0]? := fun b => zai 0 (by omega)
 have g1 : ∀ b : List AV, (pre ++ b)[29]? = b[1]? := fun b => zai 1 (by omega)
 have tk : (List.map (AV.int IntKind.u8) p).take p.length = List.map (AV.int IntKind.u8) p := by simp
 unfold lxGo
 simp only [List.length_append, List.length_cons, List.length_nil, Nat.zero_add]
 (have fA := aI @hpre (aI @s0 (aI @s1 (aI @g0 (aI @g1 (aI @tk (aI @za1 (aI @l1 (aI @l2 (aI @h1 (aI @h2 (aI @u1 (aI @u2 (aI @za3 @za2))))))))))))); refine gox ?_; clear fA)
 (have fA := aI @hpre (aI @s0 (aI @s1 (aI @g0 (aI @g1 (aI @tk (aI @za1 (aI @l1 (aI @l2 (aI @h1 (aI @h2 (aI @u1 (aI @u2 (aI @za3 @za2))))))))))))); refine finhx ?_; clear fA; try with_reducible rfl)
 all_goals first | rfl | (simp only [List.map_append, List.map_cons, List.map_nil]; rfl)
theorem zhx (tag : Nat) (pre post : List AV) (hpre : pre.length = 28) (h1 : freeL tag pre = true) (h2 : freeL tag post = true) (p : List Int) (sh : Int) (c : Int) (hp : p.length < 1000) (hc0 : 0 ≤ c) (hc : c < 32) :
  callH L T 224 tag [.ref 0 (tag, 0) 28, .int .u8 c] [hb 0 (pre ++ .msl 1000028 (tag, 0) 1 0 p.length :: .int .i64 sh :: post), hb 1000028 (p.map (.int .u8))] =
  some (.msl 400000 (tag, 0) 7 0 (ctl p sh c).2.2.length, [hb 0 (pre ++ .msl 1000028 (tag, 0) 1 0 (ctl p sh c).1.length :: .int .i64 (ctl p sh c).2.1 :: post), hb 400000 (flat Ev.enc (ctl p sh c).2.2), hb 1000028 ((ctl p sh c).1.map (.int .u8))]) := by
 refine (za8 (show T (224 + 1000000000) = some (.hcode a224) from rfl) rfl (by simp only [argEnv, Nat.reduceAdd]; apply Eq.refl) (by simp only [hb, hHeap]; apply Eq.refl)).trans ?_
 have l1 := zac h1
 have l2 := zac h2
 have u1 := zal h1
 have u2 := zal h2
 have s0 : ∀ b v, setR (pre ++ b) 28 v = pre ++ setR b 0 v := fun b v => zae 0 (by omega)
 have s1 : ∀ b v, setR (pre ++ b) 29 v = pre ++ setR b 1 v := fun b v => zae 1 (by omega)
 have g0 : ∀ b : List AV, (pre ++ b)[28]? = b[0]? := fun b => zai 0 (by omega)
 have g1 : ∀ b : List AV, (pre ++ b)[29]? = b[1]? := fun b => zai 1 (by omega)
 have tk : (List.map (AV.int IntKind.u8) p).take p.length = List.map (AV.int IntKind.u8) p := by simp
 by_cases q18 : c = 18
 ·subst q18
  rw [show ctl p sh 18 = ([18], sh, []) from by rfl]
  (have fA := aI @hpre (aI @s0 (aI @s1 (aI @g0 (aI @g1 (aI @tk (aI @za1 (aI @l1 (aI @l2 (aI @h1 (aI @h2 (aI @u1 (aI @u2 (aI @za3 @za2))))))))))))); refine gox ?_; clear fA)
  (have fA := aI @hpre (aI @s0 (aI @s1 (aI @g0 (aI @g1 (aI @tk (aI @za1 (aI @l1 (aI @l2 (aI @h1 (aI @h2 (aI @u1 (aI @u2 (aI @za3 @za2))))))))))))); refine finhx ?_; clear fA; try with_reducible rfl)
  all_goals first | rfl | (simp only [List.map_append, List.map_cons, List.map_nil]; rfl)
 by_cases q25 : c = 25
 ·subst q25
  rw [show ctl p sh 25 = ([25], sh, []) from by rfl]
  (have fA := aI @hpre (aI @s0 (aI @s1 (aI @g0 (aI @g1 (aI @tk (aI @za1 (aI @l1 (aI @l2 (aI @h1 (aI @h2 (aI @u1 (aI @u2 (aI @za3 @za2))))))))))))); refine gox ?_; clear fA)
  (have fA := aI @hpre (aI @s0 (aI @s1 (aI @g0 (aI @g1 (aI @tk (aI @za1 (aI @l1 (aI @l2 (aI @h1 (aI @h2 (aI @u1 (aI @u2 (aI @za3 @za2))))))))))))); refine finhx ?_; clear fA; try with_reducible rfl)
  all_goals first | rfl | (simp only [List.map_append, List.map_cons, List.map_nil]; rfl)
 by_cases q27 : c = 27
 ·subst q27
  rw [show ctl p sh 27 = ([27], sh, []) from by rfl]
  (have fA := aI @hpre (aI @s0 (aI @s1 (aI @g0 (aI @g1 (aI @tk (aI @za1 (aI @l1 (aI @l2 (aI @h1 (aI @h2 (aI @u1 (aI @u2 (aI @za3 @za2))))))))))))); refine gox ?_; clear fA)
  (have fA := aI @hpre (aI @s0 (aI @s1 (aI @g0 (aI @g1 (aI @tk (aI @za1 (aI @l1 (aI @l2 (aI @h1 (aI @h2 (aI @u1 (aI @u2 (aI @za3 @za2))))))))))))); refine finhx ?_; clear fA; try with_reducible rfl)
  all_goals first | rfl | (simp only [List.map_append, List.map_cons, List.map_nil]; rfl)
 by_cases q31 : c = 31
 ·subst q31
  rw [show ctl p sh 31 = ([31], sh, []) from by rfl]
  (have fA := aI @hpre (aI @s0 (aI @s1 (aI @g0 (aI @g1 (aI @tk (aI @za1 (aI @l1 (aI @l2 (aI @h1 (aI @h2 (aI @u1 (aI @u2 (aI @za3 @za2))))))))))))); refine gox ?_; clear fA)
  (have fA := aI @hpre (aI @s0 (aI @s1 (aI @g0 (aI @g1 (aI @tk (aI @za1 (aI @l1 (aI @l2 (aI @h1 (aI @h2 (aI @u1 (aI @u2 (aI @za3 @za2))))))))))))); refine finhx ?_; clear fA; try with_reducible rfl)
  all_goals first | rfl | (simp only [List.map_append, List.map_cons, List.map_nil]; rfl)
 by_cases q14 : c = 14
 ·subst q14
  rw [show ctl p sh 14 = (p, 1, []) from by rfl]
  (have fA := aI @hpre (aI @s0 (aI @s1 (aI @g0 (aI @g1 (aI @tk (aI @za1 (aI @l1 (aI @l2 (aI @h1 (aI @h2 (aI @u1 (aI @u2 (aI @za3 @za2))))))))))))); refine gox ?_; clear fA)
  (have fA := aI @hpre (aI @s0 (aI @s1 (aI @g0 (aI @g1 (aI @tk (aI @za1 (aI @l1 (aI @l2 (aI @h1 (aI @h2 (aI @u1 (aI @u2 (aI @za3 @za2))))))))))))); refine finhx ?_; clear fA; try with_reducible rfl)
  all_goals first | rfl | (simp only [List.map_append, List.map_cons, List.map_nil]; rfl)
 by_cases q15 : c = 15
 ·subst q15
  rw [show ctl p sh 15 = (p, 0, []) from by rfl]
  (have fA := aI @hpre (aI @s0 (aI @s1 (aI @g0 (aI @g1 (aI @tk (aI @za1 (aI @l1 (aI @l2 (aI @h1 (aI @h2 (aI @u1 (aI @u2 (aI @za3 @za2))))))))))))); refine gox ?_; clear fA)
  (have fA := aI @hpre (aI @s0 (aI @s1 (aI @g0 (aI @g1 (aI @tk (aI @za1 (aI @l1 (aI @l2 (aI @h1 (aI @h2 (aI @u1 (aI @u2 (aI @za3 @za2))))))))))))); refine finhx ?_; clear fA; try with_reducible rfl)
  all_goals first | rfl | (simp only [List.map_append, List.map_cons, List.map_nil]; rfl)
 by_cases q7 : c = 7
 ·subst q7
  rw [show ctl p sh 7 = (p, sh, ctlE 7) from by rfl]
  (have fA := aI @hpre (aI @s0 (aI @s1 (aI @g0 (aI @g1 (aI @tk (aI @za1 (aI @l1 (aI @l2 (aI @h1 (aI @h2 (aI @u1 (aI @u2 (aI @za3 @za2))))))))))))); have c1 := fun x1 => t_one x1 8 0; refine gox ?_; clear fA c1)
  (have fA := aI @hpre (aI @s0 (aI @s1 (aI @g0 (aI @g1 (aI @tk (aI @za1 (aI @l1 (aI @l2 (aI @h1 (aI @h2 (aI @u1 (aI @u2 (aI @za3 @za2))))))))))))); refine finhx ?_; clear fA; try with_reducible rfl)
  all_goals first | rfl | (simp only [List.map_append, List.map_cons, List.map_nil]; rfl)
 by_cases q8 : c = 8
 ·subst q8
  rw [show ctl p sh 8 = (p, sh, ctlE 8) from by rfl]
  (have fA := aI @hpre (aI @s0 (aI @s1 (aI @g0 (aI @g1 (aI @tk (aI @za1 (aI @l1 (aI @l2 (aI @h1 (aI @h2 (aI @u1 (aI @u2 (aI @za3 @za2))))))))))))); refine gox ?_; clear fA)
  (have fA := aI @hpre (aI @s0 (aI @s1 (aI @g0 (aI @g1 (aI @tk (aI @za1 (aI @l1 (aI @l2 (aI @h1 (aI @h2 (aI @u1 (aI @u2 (aI @za3 @za2))))))))))))); refine finhx ?_; clear fA; try with_reducible rfl)
  all_goals first | rfl | (simp only [List.map_append, List.map_cons, List.map_nil]; rfl)
 by_cases q9 : c = 9
 ·subst q9
  rw [show ctl p sh 9 = (p, sh, ctlE 9) from by rfl]
  (have fA := aI @hpre (aI @s0 (aI @s1 (aI @g0 (aI @g1 (aI @tk (aI @za1 (aI @l1 (aI @l2 (aI @h1 (aI @h2 (aI @u1 (aI @u2 (aI @za3 @za2))))))))))))); refine gox ?_; clear fA)
  (have fA := aI @hpre (aI @s0 (aI @s1 (aI @g0 (aI @g1 (aI @tk (aI @za1 (aI @l1 (aI @l2 (aI @h1 (aI @h2 (aI @u1 (aI @u2 (aI @za3 @za2))))))))))))); refine finhx ?_; clear fA; try with_reducible rfl)
  all_goals first | rfl | (simp only [List.map_append, List.map_cons, List.map_nil]; rfl)
 by_cases q10 : c = 10
 ·subst q10
  rw [show ctl p sh 10 = (p, sh, ctlE 10) from by rfl]
  (have fA := aI @hpre (aI @s0 (aI @s1 (aI @g0 (aI @g1 (aI @tk (aI @za1 (aI @l1 (aI @l2 (aI @h1 (aI @h2 (aI @u1 (aI @u2 (aI @za3 @za2))))))))))))); refine gox ?_; clear fA)
  (have fA := aI @hpre (aI @s0 (aI @s1 (aI @g0 (aI @g1 (aI @tk (aI @za1 (aI @l1 (aI @l2 (aI @h1 (aI @h2 (aI @u1 (aI @u2 (aI @za3 @za2))))))))))))); refine finhx ?_; clear fA; try with_reducible rfl)
  all_goals first | rfl | (simp only [List.map_append, List.map_cons, List.map_nil]; rfl)
 by_cases q11 : c = 11
 ·subst q11
  rw [show ctl p sh 11 = (p, sh, ctlE 11) from by rfl]
  (have fA := aI @hpre (aI @s0 (aI @s1 (aI @g0 (aI @g1 (aI @tk (aI @za1 (aI @l1 (aI @l2 (aI @h1 (aI @h2 (aI @u1 (aI @u2 (aI @za3 @za2))))))))))))); refine gox ?_; clear fA)
  (have fA := aI @hpre (aI @s0 (aI @s1 (aI @g0 (aI @g1 (aI @tk (aI @za1 (aI @l1 (aI @l2 (aI @h1 (aI @h2 (aI @u1 (aI @u2 (aI @za3 @za2))))))))))))); refine finhx ?_; clear fA; try with_reducible rfl)
  all_goals first | rfl | (simp only [List.map_append, List.map_cons, List.map_nil]; rfl)
 by_cases q13 : c = 13
 ·subst q13
  rw [show ctl p sh 13 = (p, sh, ctlE 13) from by rfl]
  (have fA := aI @hpre (aI @s0 (aI @s1 (aI @g0 (aI @g1 (aI @tk (aI @za1 (aI @l1 (aI @l2 (aI @h1 (aI @h2 (aI @u1 (aI @u2 (aI @za3 @za2))))))))))))); have c1 := fun x1 => t_one x1 2 5; refine gox ?_; clear fA c1)
  (have fA := aI @hpre (aI @s0 (aI @s1 (aI @g0 (aI @g1 (aI @tk (aI @za1 (aI @l1 (aI @l2 (aI @h1 (aI @h2 (aI @u1 (aI @u2 (aI @za3 @za2))))))))))))); refine finhx ?_; clear fA; try with_reducible rfl)
  all_goals first | rfl | (simp only [List.map_append, List.map_cons, List.map_nil]; rfl)
 by_cases q12 : c = 12
 ·subst q12
  rw [show ctl p sh 12 = (p, sh, ctlE 12) from by rfl]
  (have fA := aI @hpre (aI @s0 (aI @s1 (aI @g0 (aI @g1 (aI @tk (aI @za1 (aI @l1 (aI @l2 (aI @h1 (aI @h2 (aI @u1 (aI @u2 (aI @za3 @za2))))))))))))); have c1 := fun x1 => t_one x1 3 1; refine gox ?_; clear fA c1)
  (have fA := aI @hpre (aI @s0 (aI @s1 (aI @g0 (aI @g1 (aI @tk (aI @za1 (aI @l1 (aI @l2 (aI @h1 (aI @h2 (aI @u1 (aI @u2 (aI @za3 @za2))))))))))))); refine finhx ?_; clear fA; try with_reducible rfl)
  all_goals first | rfl | (simp only [List.map_append, List.map_cons, List.map_nil]; rfl)
 by_cases q24 : c = 24
 ·subst q24
  rw [show ctl p sh 24 = (p, sh, ctlE 24) from by rfl]
  (have fA := aI @hpre (aI @s0 (aI @s1 (aI @g0 (aI @g1 (aI @tk (aI @za1 (aI @l1 (aI @l2 (aI @h1 (aI @h2 (aI @u1 (aI @u2 (aI @za3 @za2))))))))))))); have c1 := fun x1 => t_one x1 3 2; refine gox ?_; clear fA c1)
  (have fA := aI @hpre (aI @s0 (aI @s1 (aI @g0 (aI @g1 (aI @tk (aI @za1 (aI @l1 (aI @l2 (aI @h1 (aI @h2 (aI @u1 (aI @u2 (aI @za3 @za2))))))))))))); refine finhx ?_; clear fA; try with_reducible rfl)
  all_goals first | rfl | (simp only [List.map_append, List.map_cons, List.map_nil]; rfl)
 by_cases q17 : c = 17
 ·subst q17
  rw [show ctl p sh 17 = (p, sh, ctlE 17) from by rfl]
  (have fA := aI @hpre (aI @s0 (aI @s1 (aI @g0 (aI @g1 (aI @tk (aI @za1 (aI @l1 (aI @l2 (aI @h1 (aI @h2 (aI @u1 (aI @u2 (aI @za3 @za2))))))))))))); have c1 := fun x1 => t_one x1 9 1; refine gox ?_; clear fA c1)
  (have fA := aI @hpre (aI @s0 (aI @s1 (aI @g0 (aI @g1 (aI @tk (aI @za1 (aI @l1 (aI @l2 (aI @h1 (aI @h2 (aI @u1 (aI @u2 (aI @za3 @za2))))))))))))); refine finhx ?_; clear fA; try with_reducible rfl)
  all_goals first | rfl | (simp only [List.map_append, List.map_cons, List.map_nil]; rfl)
 by_cases q20 : c = 20
 ·subst q20
  rw [show ctl p sh 20 = (p, sh, ctlE 20) from by rfl]
  (have fA := aI @hpre (aI @s0 (aI @s1 (aI @g0 (aI @g1 (aI @tk (aI @za1 (aI @l1 (aI @l2 (aI @h1 (aI @h2 (aI @u1 (aI @u2 (aI @za3 @za2))))))))))))); have c1 := fun x1 => t_one x1 9 0; refine gox ?_; clear fA c1)
  (have fA := aI @hpre (aI @s0 (aI @s1 (aI @g0 (aI @g1 (aI @tk (aI @za1 (aI @l1 (aI @l2 (aI @h1 (aI @h2 (aI @u1 (aI @u2 (aI @za3 @za2))))))))))))); refine finhx ?_; clear fA; try with_reducible rfl)
  all_goals first | rfl | (simp only [List.map_append, List.map_cons, List.map_nil]; rfl)
 by_cases q26 : c = 26
 ·subst q26
  rw [show ctl p sh 26 = (p, sh, ctlE 26) from by rfl]
  (have fA := aI @hpre (aI @s0 (aI @s1 (aI @g0 (aI @g1 (aI @tk (aI @za1 (aI @l1 (aI @l2 (aI @h1 (aI @h2 (aI @u1 (aI @u2 (aI @za3 @za2))))))))))))); have c1 := fun x1 => t_char x1 0 127 (by omega) (by omega); refine gox ?_; clear fA c1)
  (have fA := aI @hpre (aI @s0 (aI @s1 (aI @g0 (aI @g1 (aI @tk (aI @za1 (aI @l1 (aI @l2 (aI @h1 (aI @h2 (aI @u1 (aI @u2 (aI @za3 @za2))))))))))))); refine finhx ?_; clear fA; try with_reducible rfl)
  all_goals first | rfl | (simp only [List.map_append, List.map_cons, List.map_nil]; rfl)
 by_cases q30 : c = 30
 ·subst q30
  rw [show ctl p sh 30 = (p, sh, ctlE 30) from by rfl]
  (have fA := aI @hpre (aI @s0 (aI @s1 (aI @g0 (aI @g1 (aI @tk (aI @za1 (aI @l1 (aI @l2 (aI @h1 (aI @h2 (aI @u1 (aI @u2 (aI @za3 @za2))))))))))))); have c1 := fun x1 => t_one x1 4 0; refine gox ?_; clear fA c1)
  (have fA := aI @hpre (aI @s0 (aI @s1 (aI @g0 (aI @g1 (aI @tk (aI @za1 (aI @l1 (aI @l2 (aI @h1 (aI @h2 (aI @u1 (aI @u2 (aI @za3 @za2))))))))))))); refine finhx ?_; clear fA; try with_reducible rfl)
  all_goals first | rfl | (simp only [List.map_append, List.map_cons, List.map_nil]; rfl)
 rw [show ctl p sh c = (p, sh, [evI]) from by simp [ctl, ctlE, q18, q25, q27, q31, q14, q15, q7, q13, q12, q24, q17, q20, q26, q30, show ¬ (8 ≤ c ∧ c ≤ 11) from by omega]]
 (have fA := aI @hpre (aI @s0 (aI @s1 (aI @g0 (aI @g1 (aI @tk (aI @za1 (aI @l1 (aI @l2 (aI @h1 (aI @h2 (aI @u1 (aI @u2 (aI @za3 @za2))))))))))))); have c1 := fun x1 => zb7 x1; refine gox ?_; clear fA c1)
 (have fA := aI @hpre (aI @s0 (aI @s1 (aI @g0 (aI @g1 (aI @tk (aI @za1 (aI @l1 (aI @l2 (aI @h1 (aI @h2 (aI @u1 (aI @u2 (aI @za3 @za2))))))))))))); refine finhx ?_; clear fA; try with_reducible rfl)
 all_goals first | rfl | (simp only [List.map_append, List.map_cons, List.map_nil]; rfl)
end
section
attribute [local simp] Ev.flen Ev.rd Ev.enc
theorem t_sign_28 (tag : Nat) (pre post : List AV) (hpre : pre.length = 28) (h1 : freeL tag pre = true) (h2 : freeL tag post = true) (p : List Int) (sh : Int) (c : Int) (hp : p.length < 1000) (hc0 : 0 ≤ c) (hc : c < 128) (hby : ∀ x ∈ p, 0 ≤ x ∧ x < 128) :
  callH L T 227 tag [.ref 0 (tag, 0) 28, .int .u8 c] [hb 0 (pre ++ .msl 1000028 (tag, 0) 1 0 p.length :: .int .i64 sh :: post), hb 1000028 (p.map (.int .u8))] =
  some (.msl 400000 (tag, 0) 7 0 (sgn p sh c).2.2.length, [hb 0 (pre ++ .msl 1000028 (tag, 0) 1 0 (sgn p sh c).1.length :: .int .i64 (sgn p sh c).2.1 :: post), hb 400000 (flat Ev.enc (sgn p sh c).2.2), hb 1000028 ((sgn p sh c).1.map (.int .u8))]) := by
 refine (za8 (show T (227 + 1000000000) = some (.hcode a227) from rfl) rfl (by simp only [argEnv, Nat.reduceAdd]; apply Eq.refl) (by simp only [hb, hHeap]; apply Eq.refl)).trans ?_
 have l1 := zac h1
 have l2 := zac h2
 have u1 := zal h1
 have u2 := zal h2
 have s0 : ∀ b v, setR (pre ++ b) 28 v = pre ++ setR b 0 v := fun b v => zae 0 (by omega)
 have s1 : ∀ b v, setR (pre ++ b) 29 v = pre ++ setR b 1 v := fun b v => zae 1 (by omega)
 have g0 : ∀ b : List AV, (pre ++ b)[28]? = b[0]? := fun b => zai 0 (by omega)
 have g1 : ∀ b : List AV, (pre ++ b)[29]? = b[1]? := fun b => zai 1 (by omega)
 have tk : (List.map (AV.int IntKind.u8) p).take p.length = List.map (AV.int IntKind.u8) p := by simp
 by_cases q : 1 < p.length
 ·have q' : (1 : Int) < (p.length : Int) := by omega
  have gp : (List.map (AV.int IntKind.u8) p)[1]? = some (.int .u8 (p.getD 1 0)) := by simp [show 1 < p.length from by omega]
  have hr := hby (p.getD 1 0) (by rw [List.getD_eq_getElem?_getD, List.getElem?_eq_getElem (show 1 < p.length from by omega)]; exact List.getElem_mem _)
  have wr : IntKind.i64.wrap (p.getD 1 0) = p.getD 1 0 := w_i64 (by omega) (by omega)
  rw [show sgn p sh c = lxEnd sh [⟨1, IntKind.i64.wrap (p.getD 1 0), 0, 0, 0, 2, c⟩] from by unfold sgn; rw [if_pos q, wr]]
  (have fA := aI @hpre (aI @s0 (aI @s1 (aI @g0 (aI @g1 (aI @tk (aI @za1 (aI @l1 (aI @l2 (aI @h1 (aI @h2 (aI @u1 (aI @u2 (aI @za3 (aI @za2 @gp)))))))))))))); have c1 := fun x1 => t_char x1 2 c (by omega) (by omega); have c2 := zaf (tag + 1) pre post hpre u1 u2 p sh [⟨1, IntKind.i64.wrap (p.getD 1 0), 0, 0, 0, 2, c⟩]; refine gox ?_; clear fA c1 c2)
  (have fA := aI @hpre (aI @s0 (aI @s1 (aI @g0 (aI @g1 (aI @tk (aI @za1 (aI @l1 (aI @l2 (aI @h1 (aI @h2 (aI @u1 (aI @u2 (aI @za3 (aI @za2 @gp)))))))))))))); refine finhx ?_; clear fA; try with_reducible rfl)
  all_goals first | rfl | (simp only [List.map_append, List.map_cons, List.map_nil]; rfl)
 ·have q' : ¬ (1 : Int) < (p.length : Int) := by omega
  have ca : ∀ tag, callω L T 270 tag [.int .u8 c] [none] = some (.bool (accB c), [none]) := fun tag => t_isAccent tag c
  cases a : accB c with
  | true =>
   rw [a] at ca
   rw [show sgn p sh c = lxGo p sh c from by unfold sgn; rw [if_neg q, if_pos a]]
   (have fA := aI @hpre (aI @s0 (aI @s1 (aI @g0 (aI @g1 (aI @tk (aI @za1 (aI @l1 (aI @l2 (aI @h1 (aI @h2 (aI @u1 (aI @u2 (aI @za3 @za2))))))))))))); have c1 := fun x1 => ca x1; have c2 := fun x1 => t_char x1 2 c (by omega) (by omega); have c3 := zb8 (tag + 1) pre post hpre u1 u2 p sh c (by omega); refine gox ?_; clear fA c1 c2 c3)
   (have fA := aI @hpre (aI @s0 (aI @s1 (aI @g0 (aI @g1 (aI @tk (aI @za1 (aI @l1 (aI @l2 (aI @h1 (aI @h2 (aI @u1 (aI @u2 (aI @za3 @za2))))))))))))); refine finhx ?_; clear fA; try with_reducible rfl)
   all_goals first | rfl | (simp only [List.map_append, List.map_cons, List.map_nil]; rfl)
  | false =>
   rw [a] at ca
   rw [show sgn p sh c = lxEnd sh [evC 2 c] from by unfold sgn; rw [if_neg q, if_neg (by simp [a])]]
   (have fA := aI @hpre (aI @s0 (aI @s1 (aI @g0 (aI @g1 (aI @tk (aI @za1 (aI @l1 (aI @l2 (aI @h1 (aI @h2 (aI @u1 (aI @u2 (aI @za3 @za2))))))))))))); have c1 := fun x1 => ca x1; have c2 := fun x1 => t_char x1 2 c (by omega) (by omega); have c3 := zaf (tag + 1) pre post hpre u1 u2 p sh [evC 2 c]; refine gox ?_; clear fA c1 c2 c3)
   (have fA := aI @hpre (aI @s0 (aI @s1 (aI @g0 (aI @g1 (aI @tk (aI @za1 (aI @l1 (aI @l2 (aI @h1 (aI @h2 (aI @u1 (aI @u2 (aI @za3 @za2))))))))))))); refine finhx ?_; clear fA; try with_reducible rfl)
   all_goals first | rfl | (simp only [List.map_append, List.map_cons, List.map_nil]; rfl)
theorem t_place_28 (tag : Nat) (pre post : List AV) (hpre : pre.length = 28) (h1 : freeL tag pre = true) (h2 : freeL tag post = true) (p : List Int) (sh : Int) (c : Int) (hp : p.length < 1000) (hc0 : 0 ≤ c) (hc : c < 128) (hby : ∀ x ∈ p, 0 ≤ x ∧ x < 128) :
  callH L T 228 tag [.ref 0 (tag, 0) 28, .int .u8 c] [hb 0 (pre ++ .msl 1000028 (tag, 0) 1 0 p.length :: .int .i64 sh :: post), hb 1000028 (p.map (.int .u8))] =
  some (.msl 400000 (tag, 0) 7 0 (plc p sh c).2.2.length, [hb 0 (pre ++ .msl 1000028 (tag, 0) 1 0 (plc p sh c).1.length :: .int .i64 (plc p sh c).2.1 :: post), hb 400000 (flat Ev.enc (plc p sh c).2.2), hb 1000028 ((plc p sh c).1.map (.int .u8))]) := by
 refine (za8 (show T (228 + 1000000000) = some (.hcode a228) from rfl) rfl (by simp only [argEnv, Nat.reduceAdd]; apply Eq.refl) (by simp only [hb, hHeap]; apply Eq.refl)).trans ?_
 have l1 := zac h1
 have l2 := zac h2
 have u1 := zal h1
 have u2 := zal h2
 have s0 : ∀ b v, setR (pre ++ b) 28 v = pre ++ setR b 0 v := fun b v => zae 0 (by omega)
 have s1 : ∀ b v, setR (pre ++ b) 29 v = pre ++ setR b 1 v := fun b v => zae 1 (by omega)
 have g0 : ∀ b : List AV, (pre ++ b)[28]? = b[0]? := fun b => zai 0 (by omega)
 have g1 : ∀ b : List AV, (pre ++ b)[29]? = b[1]? := fun b => zai 1 (by omega)
 have tk : (List.map (AV.int IntKind.u8) p).take p.length = List.map (AV.int IntKind.u8) p := by simp
 by_cases q : p.length < 2
 ·have q' : (p.length : Int) < 2 := by omega
  rw [show plc p sh c = lxGo p sh c from by unfold plc; rw [if_pos q]]
  (have fA := aI @hpre (aI @s0 (aI @s1 (aI @g0 (aI @g1 (aI @tk (aI @za1 (aI @l1 (aI @l2 (aI @h1 (aI @h2 (aI @u1 (aI @u2 (aI @za3 @za2))))))))))))); have c1 := zb8 (tag + 1) pre post hpre u1 u2 p sh c (by omega); refine gox ?_; clear fA c1)
  (have fA := aI @hpre (aI @s0 (aI @s1 (aI @g0 (aI @g1 (aI @tk (aI @za1 (aI @l1 (aI @l2 (aI @h1 (aI @h2 (aI @u1 (aI @u2 (aI @za3 @za2))))))))))))); refine finhx ?_; clear fA; try with_reducible rfl)
  all_goals first | rfl | (simp only [List.map_append, List.map_cons, List.map_nil]; rfl)
 ·have q' : ¬ (p.length : Int) < 2 := by omega
  have gp : (List.map (AV.int IntKind.u8) p)[1]? = some (.int .u8 (p.getD 1 0)) := by simp [show 1 < p.length from by omega]
  have hr := hby (p.getD 1 0) (by rw [List.getD_eq_getElem?_getD, List.getElem?_eq_getElem (show 1 < p.length from by omega)]; exact List.getElem_mem _)
  have wr : IntKind.i64.wrap (p.getD 1 0) = p.getD 1 0 := w_i64 (by omega) (by omega)
  by_cases a : p.getD 1 0 < 64
  ·rw [show plc p sh c = lxEnd sh [evI] from by unfold plc; rw [if_neg q, if_pos (.inl a)]]
   (have fA := aI @hpre (aI @s0 (aI @s1 (aI @g0 (aI @g1 (aI @tk (aI @za1 (aI @l1 (aI @l2 (aI @h1 (aI @h2 (aI @u1 (aI @u2 (aI @za3 (aI @za2 @gp)))))))))))))); have c1 := fun x1 => zb7 x1; have c2 := zaf (tag + 1) pre post hpre u1 u2 p sh [evI]; refine gox ?_; clear fA c1 c2)
   (have fA := aI @hpre (aI @s0 (aI @s1 (aI @g0 (aI @g1 (aI @tk (aI @za1 (aI @l1 (aI @l2 (aI @h1 (aI @h2 (aI @u1 (aI @u2 (aI @za3 (aI @za2 @gp)))))))))))))); refine finhx ?_; clear fA; try with_reducible rfl)
   all_goals first | rfl | (simp only [List.map_append, List.map_cons, List.map_nil]; rfl)
  by_cases a2 : c < 64
  ·rw [show plc p sh c = lxEnd sh [evI] from by unfold plc; rw [if_neg q, if_pos (.inr a2)]]
   (have fA := aI @hpre (aI @s0 (aI @s1 (aI @g0 (aI @g1 (aI @tk (aI @za1 (aI @l1 (aI @l2 (aI @h1 (aI @h2 (aI @u1 (aI @u2 (aI @za3 (aI @za2 @gp)))))))))))))); have c1 := fun x1 => zb7 x1; have c2 := zaf (tag + 1) pre post hpre u1 u2 p sh [evI]; refine gox ?_; clear fA c1 c2)
   (have fA := aI @hpre (aI @s0 (aI @s1 (aI @g0 (aI @g1 (aI @tk (aI @za1 (aI @l1 (aI @l2 (aI @h1 (aI @h2 (aI @u1 (aI @u2 (aI @za3 (aI @za2 @gp)))))))))))))); refine finhx ?_; clear fA; try with_reducible rfl)
   all_goals first | rfl | (simp only [List.map_append, List.map_cons, List.map_nil]; rfl)
  ·rw [show plc p sh c = lxEnd sh [⟨5, IntKind.i64.wrap (bAnd .u8 (p.getD 1 0) 63), IntKind.i64.wrap (bAnd .u8 c 63), 0, 0, 0, 0⟩] from by unfold plc; rw [if_neg q, if_neg (fun e => e.elim a a2), zqf, zqf]]
   (have fA := aI @hpre (aI @s0 (aI @s1 (aI @g0 (aI @g1 (aI @tk (aI @za1 (aI @l1 (aI @l2 (aI @h1 (aI @h2 (aI @u1 (aI @u2 (aI @za3 (aI @za2 @gp)))))))))))))); have c1 := zaf (tag + 1) pre post hpre u1 u2 p sh [⟨5, IntKind.i64.wrap (bAnd .u8 (p.getD 1 0) 63), IntKind.i64.wrap (bAnd .u8 c 63), 0, 0, 0, 0⟩]; refine gox ?_; clear fA c1)
   (have fA := aI @hpre (aI @s0 (aI @s1 (aI @g0 (aI @g1 (aI @tk (aI @za1 (aI @l1 (aI @l2 (aI @h1 (aI @h2 (aI @u1 (aI @u2 (aI @za3 (aI @za2 @gp)))))))))))))); refine finhx ?_; clear fA; try with_reducible rfl)
   all_goals first | rfl | (simp only [List.map_append, List.map_cons, List.map_nil]; rfl)
end
section
attribute [local simp] Ev.flen Ev.rd Ev.enc
theorem nm_if {n c : Int} (h1 : 0 ≤ n) (h2 : n ≤ 100) (h3 : 48 ≤ c) (h4 : c ≤ 57) : (if 100 < IntKind.i64.wrap (IntKind.i64.wrap (10 * n) + (c - 48)) then 100 else IntKind.i64.wrap (IntKind.i64.wrap (10 * n) + (c - 48))) = min (10 * n + (c - 48)) 100 := by
 rw [w_i64 (x := 10 * n) (by omega) (by omega), w_i64 (by omega) (by omega)]
 split <;> omega
theorem nm_99 (x : Int) : (if 99 < x then 99 else x) = min x 99 := by split <;> omega
theorem nm_99' (x : Int) : (if x > 99 then 99 else x) = min x 99 := by split <;> omega
theorem t_numbers (tag : Nat) (b : List Int) (hb : ∀ x ∈ b, 0 ≤ x ∧ x < 128) (hn : b.length < 1000) : callω L T 305 tag [.isl 1 b.length (b.map (.int .u8))] [none] = some (.tup [.int .i64 (nm1 b), .int .i64 (nm2 b)], [none]) := by
 rw [za5 (show T 305 = some (.code a305) from rfl) rfl rfl]
 (refine gox ?_)
 refine Eq.trans (zds (α := Int) (X := Nm) (fun k x => nmOk x k) (fun k x => ⟨[(4, .ref 4 (tag, 1) 0), (5, .int .i64 x.k), (8, .isl 1 b.length (b.map (.int .u8))), (9, .int .i64 b.length), (10, .int .i64 (k : Nat))], [(4, ⟨(tag, 1), [.int .i64 x.n, .int .i64 x.m]⟩)], 1 + 1, tag⟩) b
  (fun l x => some (.tup [.int .i64 (min (l.foldl nmStep x).n 99), .int .i64 (min (l.foldl nmStep x).m 99)], [none])) ?_ ?_ ⟨0, 0, 0⟩ ⟨by decide, by decide, by decide, by decide, by decide, by decide⟩) rfl
 ·rintro k ⟨n, m, j⟩ hk ⟨h1, h2, h3, h4, h5, h6⟩ ih
  have hc := hb b[k] (List.getElem_mem hk)
  have hk' : (k : Int) < (b.length : Int) := by omega
  have gk : (List.map (AV.int IntKind.u8) b)[k]? = some (.int .u8 b[k]) := by simp [hk]
  have hw : IntKind.i64.wrap ((k : Int) + 1) = ((k + 1 : Nat) : Int) := zah hk (by omega)
  simp only at h1 h2 h3 h4 h5 h6
  have hd : (List.map (AV.int IntKind.u8) b).drop k = .int .u8 b[k] :: (List.map (AV.int IntKind.u8) b).drop (k + 1) := by
   rw [List.drop_eq_getElem_cons (by simpa using hk)]; simp
  have hok := nmStep_ok (s := ⟨n, m, j⟩) (j := k) (c := b[k]) ⟨h1, h2, h3, h4, h5, h6⟩
  have ih := ih _ hok
  simp only [List.foldl_cons]
  generalize b[k] = c at *
  refine Eq.trans ?_ ih
  by_cases q1 : c = 59
  ·subst q1
   (have fA := aI @gk (aI @hw @hd); refine gox ?_; clear fA)
   refine zaa ?_ rfl rfl
   simp only [nmStep, if_true]
   rw [hw, w_i64 (by omega) (by omega)]
  ·by_cases q2 : 48 ≤ c
   ·by_cases q3 : c ≤ 57
    ·by_cases q4 : j < 2
     ·have wc : IntKind.i64.wrap (IntKind.u8.wrap (c - 48)) = c - 48 := by rw [zio, Int.emod_eq_of_lt (by omega) (by omega), w_i64 (by omega) (by omega)]
      by_cases q5 : j = 0
      ·subst q5
       (have fA := aI @gk (aI @hw (aI @hd @wc)); refine gox ?_; clear fA)
       refine zaa ?_ ?_ rfl
       ·simp only [nmStep, if_neg q1, if_pos (show 48 ≤ c ∧ c ≤ 57 ∧ (0 : Int) < 2 from ⟨q2, q3, q4⟩), if_true]
        rw [hw]
       ·rw [nm_if h1 h2 q2 q3]
        simp only [nmStep, if_neg q1, if_pos (show 48 ≤ c ∧ c ≤ 57 ∧ (0 : Int) < 2 from ⟨q2, q3, q4⟩), if_true]
      ·obtain rfl : j = 1 := by omega
       (have fA := aI @gk (aI @hw (aI @hd @wc)); refine gox ?_; clear fA)
       refine zaa ?_ ?_ rfl
       ·simp only [nmStep, if_neg q1, if_pos (show 48 ≤ c ∧ c ≤ 57 ∧ (1 : Int) < 2 from ⟨q2, q3, q4⟩), if_neg q5]
        rw [hw]
       ·rw [nm_if h3 h4 q2 q3]
        simp only [nmStep, if_neg q1, if_pos (show 48 ≤ c ∧ c ≤ 57 ∧ (1 : Int) < 2 from ⟨q2, q3, q4⟩), if_neg q5]
        rfl
     ·(have fA := aI @gk (aI @hw @hd); refine gox ?_; clear fA)
      refine zaa ?_ ?_ rfl
      ·simp only [nmStep, if_neg q1, if_neg (show ¬ (48 ≤ c ∧ c ≤ 57 ∧ j < 2) from fun e => q4 e.2.2)]
       rw [hw]
      ·simp only [nmStep, if_neg q1, if_neg (show ¬ (48 ≤ c ∧ c ≤ 57 ∧ j < 2) from fun e => q4 e.2.2)]
    ·(have fA := aI @gk (aI @hw @hd); refine gox ?_; clear fA)
     refine zaa ?_ ?_ rfl
     ·simp only [nmStep, if_neg q1, if_neg (show ¬ (48 ≤ c ∧ c ≤ 57 ∧ j < 2) from fun e => q3 e.2.1)]
      rw [hw]
     ·simp only [nmStep, if_neg q1, if_neg (show ¬ (48 ≤ c ∧ c ≤ 57 ∧ j < 2) from fun e => q3 e.2.1)]
   ·(have fA := aI @gk (aI @hw @hd); refine gox ?_; clear fA)
    refine zaa ?_ ?_ rfl
    ·simp only [nmStep, if_neg q1, if_neg (show ¬ (48 ≤ c ∧ c ≤ 57 ∧ j < 2) from fun e => q2 e.1)]
     rw [hw]
    ·simp only [nmStep, if_neg q1, if_neg (show ¬ (48 ≤ c ∧ c ≤ 57 ∧ j < 2) from fun e => q2 e.1)]
 ·rintro ⟨n, m, j⟩ ⟨h1, h2, h3, h4, h5, h6⟩
  (refine gox ?_)
  (refine finx ?_; try with_reducible rfl)
  simp only [List.foldl_nil, nm_99, nm_99']
theorem t_ended (tag : Nat) (b : List Int) (c : Int) (hb : ∀ x ∈ b, 0 ≤ x ∧ x < 128) (hn : b.length < 1000) (hc0 : 64 ≤ c) (hc : c < 128) : callω L T 295 tag [.isl 1 b.length (b.map (.int .u8)), .int .u8 c] [none, none] = some (.fsl 7 (endE b c).length (flat Ev.enc (endE b c)), [none, none]) := by
 rw [za5 (show T 295 = some (.code a295) from rfl) rfl rfl]
 have c0 := fun tag => t_numbers tag b hb hn
 generalize hn1 : nm1 b = n1 at *
 generalize hn2 : nm2 b = n2 at *
 by_cases q1 : c ≤ 68 ∧ 65 ≤ c
 ·have e : endE b c = [⟨2, 69 - c, mx1 n1, 0, 0, 0, 0⟩] := by unfold endE; rw [if_pos ⟨q1.2, q1.1⟩, hn1]
  rw [e]
  have hx : c = 65 ∨ c = 66 ∨ c = 67 ∨ c = 68 := by omega
  rcases hx with rfl | rfl | rfl | rfl
  ·(have c1 := fun x1 => c0 x1; refine gox ?_; clear c1)
   (refine finx ?_; try with_reducible rfl)
   try rfl
  ·(have c1 := fun x1 => c0 x1; refine gox ?_; clear c1)
   (refine finx ?_; try with_reducible rfl)
   try rfl
  ·(have c1 := fun x1 => c0 x1; refine gox ?_; clear c1)
   (refine finx ?_; try with_reducible rfl)
   try rfl
  ·(have c1 := fun x1 => c0 x1; refine gox ?_; clear c1)
   (refine finx ?_; try with_reducible rfl)
   try rfl
 have hc65 : ¬ c = 65 := by omega
 have hc66 : ¬ c = 66 := by omega
 have hc67 : ¬ c = 67 := by omega
 have hc68 : ¬ c = 68 := by omega
 have hq : ¬ (65 ≤ c ∧ c ≤ 68) := by omega
 by_cases q2 : c = 72
 ·subst q2
  have e : endE b 72 = [⟨5, mx1 n1, mx1 n2, 0, 0, 0, 0⟩] := by unfold endE; rw [if_neg hq, if_pos rfl, hn1, hn2]
  rw [e]
  (have c1 := fun x1 => c0 x1; refine gox ?_; clear c1)
  (refine finx ?_; try with_reducible rfl)
  try rfl
 by_cases q3 : c = 74
 ·subst q3
  have e : endE b 74 = [⟨11, 74 - 73, n1, 0, 0, 0, 0⟩] := by unfold endE; rw [if_neg hq, if_neg q2, if_pos (by omega), hn1]
  rw [e]
  (have c1 := fun x1 => c0 x1; refine gox ?_; clear c1)
  (refine finx ?_; try with_reducible rfl)
  try rfl
 by_cases q4 : c = 75
 ·subst q4
  have e : endE b 75 = [⟨11, 75 - 73, n1, 0, 0, 0, 0⟩] := by unfold endE; rw [if_neg hq, if_neg q2, if_pos (by omega), hn1]
  rw [e]
  (have c1 := fun x1 => c0 x1; refine gox ?_; clear c1)
  (refine finx ?_; try with_reducible rfl)
  try rfl
 have e : endE b c = [evI] := by unfold endE; rw [if_neg hq, if_neg q2, if_neg (by omega)]
 rw [e]
 (have c1 := fun x1 => c0 x1; have c2 := fun x1 => zb7 x1; refine gox ?_; clear c1 c2)
 (refine finx ?_; try with_reducible rfl)
 try rfl
end
section
attribute [local simp] Ev.flen Ev.rd Ev.enc
theorem zl4 (tag : Nat) (pre post : List AV) (hpre : pre.length = 28) (h1 : freeL tag pre = true) (h2 : freeL tag post = true) (p : List Int) (sh : Int) (c : Int) (hp : p.length < 1000) (hp2 : 2 ≤ p.length) (hc0 : 0 ≤ c) (hc : c < 128) (hby : ∀ x ∈ p, 0 ≤ x ∧ x < 128) :
  callH L T 272 tag [.ref 0 (tag, 0) 28, .int .u8 c] [hb 0 (pre ++ .msl 1000028 (tag, 0) 1 0 p.length :: .int .i64 sh :: post), hb 1000028 (p.map (.int .u8))] =
  some (.msl 400000 (tag, 0) 7 0 (sqn p sh c).2.2.length, [hb 0 (pre ++ .msl 1000028 (tag, 0) 1 0 (sqn p sh c).1.length :: .int .i64 (sqn p sh c).2.1 :: post), hb 400000 (flat Ev.enc (sqn p sh c).2.2), hb 1000028 ((sqn p sh c).1.map (.int .u8))]) := by
 refine (za8 (show T (272 + 1000000000) = some (.hcode a272) from rfl) rfl (by simp only [argEnv, Nat.reduceAdd]; apply Eq.refl) (by simp only [hb, hHeap]; apply Eq.refl)).trans ?_
 have l1 := zac h1
 have l2 := zac h2
 have u1 := zal h1
 have u2 := zal h2
 have s0 : ∀ b v, setR (pre ++ b) 28 v = pre ++ setR b 0 v := fun b v => zae 0 (by omega)
 have s1 : ∀ b v, setR (pre ++ b) 29 v = pre ++ setR b 1 v := fun b v => zae 1 (by omega)
 have g0 : ∀ b : List AV, (pre ++ b)[28]? = b[0]? := fun b => zai 0 (by omega)
 have g1 : ∀ b : List AV, (pre ++ b)[29]? = b[1]? := fun b => zai 1 (by omega)
 have tk : (List.map (AV.int IntKind.u8) p).take p.length = List.map (AV.int IntKind.u8) p := by simp
 have hd2 : (p.drop 2).length = p.length - 2 := by simp
 have dtk : ((List.map (AV.int IntKind.u8) p).drop 2).take (p.length - 2) = List.map (AV.int IntKind.u8) (p.drop 2) := by
  rw [← List.map_drop, List.take_of_length_le (by simp)]
 have hby2 : ∀ x ∈ p.drop 2, 0 ≤ x ∧ x < 128 := fun x hx => hby x (List.mem_of_mem_drop hx)
 have ci := fun tag => zb7 tag
 by_cases q1 : 48 ≤ c ∧ c < 64 ∧ p.length - 2 < 7
 ·obtain ⟨qa, qb, qc⟩ := q1
  have qd : ((p.length - 2 : Nat) : Int) < 7 := by omega
  rw [show sqn p sh c = lxGo p sh c from by unfold sqn; rw [if_pos ⟨qa, qb, by omega⟩]]
  (have fA := aI @hpre (aI @s0 (aI @s1 (aI @g0 (aI @g1 (aI @tk (aI @za1 (aI @l1 (aI @l2 (aI @h1 (aI @h2 (aI @u1 (aI @u2 (aI @za3 (aI @za2 (aI @toNat2 @dtk))))))))))))))); have c1 := zb8 (tag + 1) pre post hpre u1 u2 p sh c (by omega); refine gox ?_; clear fA c1)
  (have fA := aI @hpre (aI @s0 (aI @s1 (aI @g0 (aI @g1 (aI @tk (aI @za1 (aI @l1 (aI @l2 (aI @h1 (aI @h2 (aI @u1 (aI @u2 (aI @za3 (aI @za2 (aI @toNat2 @dtk))))))))))))))); refine finhx ?_; clear fA; try with_reducible rfl)
  all_goals first | rfl | (simp only [List.map_append, List.map_cons, List.map_nil]; rfl)
 have qn : ¬ (48 ≤ c ∧ c < 64 ∧ (p.drop 2).length < 7) := fun e => q1 ⟨e.1, e.2.1, by omega⟩
 by_cases q2 : c < 64
 ·have e : sqn p sh c = lxEnd sh [evI] := by unfold sqn; rw [if_neg qn, if_pos (.inl q2)]
  rw [e]
  by_cases qa : 48 ≤ c
  ·have qd : ¬ ((p.length - 2 : Nat) : Int) < 7 := fun x => q1 ⟨qa, q2, by omega⟩
   (have fA := aI @hpre (aI @s0 (aI @s1 (aI @g0 (aI @g1 (aI @tk (aI @za1 (aI @l1 (aI @l2 (aI @h1 (aI @h2 (aI @u1 (aI @u2 (aI @za3 (aI @za2 (aI @toNat2 @dtk))))))))))))))); have c1 := ci (tag + 1); have c2 := zaf (tag + 1) pre post hpre u1 u2 p sh [evI]; refine gox ?_; clear fA c1 c2)
   (have fA := aI @hpre (aI @s0 (aI @s1 (aI @g0 (aI @g1 (aI @tk (aI @za1 (aI @l1 (aI @l2 (aI @h1 (aI @h2 (aI @u1 (aI @u2 (aI @za3 (aI @za2 (aI @toNat2 @dtk))))))))))))))); refine finhx ?_; clear fA; try with_reducible rfl)
   all_goals first | rfl | (simp only [List.map_append, List.map_cons, List.map_nil]; rfl)
  ·(have fA := aI @hpre (aI @s0 (aI @s1 (aI @g0 (aI @g1 (aI @tk (aI @za1 (aI @l1 (aI @l2 (aI @h1 (aI @h2 (aI @u1 (aI @u2 (aI @za3 (aI @za2 (aI @toNat2 @dtk))))))))))))))); have c1 := ci (tag + 1); have c2 := zaf (tag + 1) pre post hpre u1 u2 p sh [evI]; refine gox ?_; clear fA c1 c2)
   (have fA := aI @hpre (aI @s0 (aI @s1 (aI @g0 (aI @g1 (aI @tk (aI @za1 (aI @l1 (aI @l2 (aI @h1 (aI @h2 (aI @u1 (aI @u2 (aI @za3 (aI @za2 (aI @toNat2 @dtk))))))))))))))); refine finhx ?_; clear fA; try with_reducible rfl)
   all_goals first | rfl | (simp only [List.map_append, List.map_cons, List.map_nil]; rfl)
 have qa : 48 ≤ c := by omega
 by_cases q3 : c = 127
 ·have e : sqn p sh c = lxEnd sh [evI] := by unfold sqn; rw [if_neg qn, if_pos (.inr q3)]
  rw [e]
  subst q3
  (have fA := aI @hpre (aI @s0 (aI @s1 (aI @g0 (aI @g1 (aI @tk (aI @za1 (aI @l1 (aI @l2 (aI @h1 (aI @h2 (aI @u1 (aI @u2 (aI @za3 (aI @za2 (aI @toNat2 @dtk))))))))))))))); have c1 := ci (tag + 1); have c2 := zaf (tag + 1) pre post hpre u1 u2 p sh [evI]; refine gox ?_; clear fA c1 c2)
  (have fA := aI @hpre (aI @s0 (aI @s1 (aI @g0 (aI @g1 (aI @tk (aI @za1 (aI @l1 (aI @l2 (aI @h1 (aI @h2 (aI @u1 (aI @u2 (aI @za3 (aI @za2 (aI @toNat2 @dtk))))))))))))))); refine finhx ?_; clear fA; try with_reducible rfl)
  all_goals first | rfl | (simp only [List.map_append, List.map_cons, List.map_nil]; rfl)
 have e : sqn p sh c = lxEnd sh (endE (p.drop 2) c) := by unfold sqn; rw [if_neg qn, if_neg (fun e => e.elim q2 q3)]
 rw [e]
 have ce : ∀ tag, callω L T 295 tag [.isl 1 (p.length - 2) (List.map (AV.int IntKind.u8) (p.drop 2)), .int .u8 c] [none, none] = some (.fsl 7 (endE (p.drop 2) c).length (flat Ev.enc (endE (p.drop 2) c)), [none, none]) := fun tag => by
  rw [← hd2]; exact t_ended tag (p.drop 2) c hby2 (by omega) (by omega) hc
 generalize endE (p.drop 2) c = es at *
 (have fA := aI @hpre (aI @s0 (aI @s1 (aI @g0 (aI @g1 (aI @tk (aI @za1 (aI @l1 (aI @l2 (aI @h1 (aI @h2 (aI @u1 (aI @u2 (aI @za3 (aI @za2 (aI @toNat2 @dtk))))))))))))))); have c1 := ce (tag + 1); have c2 := zaf (tag + 1) pre post hpre u1 u2 p sh es; refine gox ?_; clear fA c1 c2)
 (have fA := aI @hpre (aI @s0 (aI @s1 (aI @g0 (aI @g1 (aI @tk (aI @za1 (aI @l1 (aI @l2 (aI @h1 (aI @h2 (aI @u1 (aI @u2 (aI @za3 (aI @za2 (aI @toNat2 @dtk))))))))))))))); refine finhx ?_; clear fA; try with_reducible rfl)
 all_goals first | rfl | (simp only [List.map_append, List.map_cons, List.map_nil]; rfl)
theorem t_asks_28 (tag : Nat) (pre post : List AV) (hpre : pre.length = 28) (h1 : freeL tag pre = true) (h2 : freeL tag post = true) (p : List Int) (sh : Int) (c : Int) (hp : p.length < 1000) (hp2 : 2 ≤ p.length) (hc0 : 0 ≤ c) (hc : c < 128) (hby : ∀ x ∈ p, 0 ≤ x ∧ x < 128) (h57 : 57 ≤ p.getD 1 0) (h59 : p.getD 1 0 ≤ 59) (hm : p.length < 2 + (p.getD 1 0 - 56).toNat) :
  callH L T 273 tag [.ref 0 (tag, 0) 28, .int .u8 c] [hb 0 (pre ++ .msl 1000028 (tag, 0) 1 0 p.length :: .int .i64 sh :: post), hb 1000028 (p.map (.int .u8))] =
  some (.msl 400000 (tag, 0) 7 0 (ask p sh c).2.2.length, [hb 0 (pre ++ .msl 1000028 (tag, 0) 1 0 (ask p sh c).1.length :: .int .i64 (ask p sh c).2.1 :: post), hb 400000 (flat Ev.enc (ask p sh c).2.2), hb 1000028 ((ask p sh c).1.map (.int .u8))]) := by
 obtain ⟨a, b, r, rfl⟩ : ∃ a b r, p = a :: b :: r := by
  match p, hp2 with
  | a :: b :: r, _ => exact ⟨a, b, r, rfl⟩
 simp only [List.getD_cons_succ, List.getD_cons_zero, List.length_cons] at h57 h59 hm
 have wc : IntKind.i64.wrap c = c := w_i64 (by omega) (by omega)
 have hb3 : b = 57 ∨ b = 58 ∨ b = 59 := by omega
 have w57 : (57 - 56 : Int).toNat = 1 := rfl
 have w58 : (58 - 56 : Int).toNat = 2 := rfl
 have w59 : (59 - 56 : Int).toNat = 3 := rfl
 rcases hb3 with rfl | rfl | rfl
 ·obtain rfl : r = [] := List.eq_nil_of_length_eq_zero (by omega)
  refine (za8 (show T (273 + 1000000000) = some (.hcode a273) from rfl) rfl (by simp only [argEnv, Nat.reduceAdd]; apply Eq.refl) (by simp only [hb, hHeap]; apply Eq.refl)).trans ?_
  have l1 := zac h1
  have l2 := zac h2
  have u1 := zal h1
  have u2 := zal h2
  have s0 : ∀ b v, setR (pre ++ b) 28 v = pre ++ setR b 0 v := fun b v => zae 0 (by omega)
  have s1 : ∀ b v, setR (pre ++ b) 29 v = pre ++ setR b 1 v := fun b v => zae 1 (by omega)
  have g0 : ∀ b : List AV, (pre ++ b)[28]? = b[0]? := fun b => zai 0 (by omega)
  have g1 : ∀ b : List AV, (pre ++ b)[29]? = b[1]? := fun b => zai 1 (by omega)
  have cg : callH L T 271 (tag + 1) [.ref 0 (tag + 1, 0) 28, .int .u8 c] [hb 0 (pre ++ .msl 1000028 (tag + 1, 0) 1 0 2 :: .int .i64 sh :: post), hb 1000028 ([a, 57].map (.int .u8))] = some (.msl 400000 (tag + 1, 0) 7 0 0, [hb 0 (pre ++ .msl 1000028 (tag + 1, 0) 1 0 3 :: .int .i64 sh :: post), hb 400000 [], hb 1000028 (([a, 57] ++ [c]).map (.int .u8))]) := zb8 (tag + 1) pre post hpre u1 u2 [a, 57] sh c (by simp)
  rw [show ask [a, 57] sh c = lxEnd sh [⟨10, 1, IntKind.i64.wrap c, 0, 0, 0, 0⟩] from by rw [wc]; rfl]
  (have fA := aI @hpre (aI @s0 (aI @s1 (aI @g0 (aI @g1 (aI @za1 (aI @l1 (aI @l2 (aI @h1 (aI @h2 (aI @u1 (aI @u2 (aI @za3 @za2)))))))))))); have c1 := cg; have c2 := zaf (tag + 1) pre post hpre u1 u2 ([a, 57] ++ [c]) sh [⟨10, 1, IntKind.i64.wrap c, 0, 0, 0, 0⟩]; refine gox ?_; clear fA c1 c2)
  refine Eq.trans zad ?_
  (have fA := aI @hpre (aI @s0 (aI @s1 (aI @g0 (aI @g1 (aI @za1 (aI @l1 (aI @l2 (aI @h1 (aI @h2 (aI @u1 (aI @u2 (aI @za3 @za2)))))))))))); have c1 := cg; have c2 := zaf (tag + 1) pre post hpre u1 u2 ([a, 57] ++ [c]) sh [⟨10, 1, IntKind.i64.wrap c, 0, 0, 0, 0⟩]; refine gox ?_; clear fA c1 c2)
  refine Eq.trans zad ?_
  (have fA := aI @hpre (aI @s0 (aI @s1 (aI @g0 (aI @g1 (aI @za1 (aI @l1 (aI @l2 (aI @h1 (aI @h2 (aI @u1 (aI @u2 (aI @za3 @za2)))))))))))); have c1 := cg; have c2 := zaf (tag + 1) pre post hpre u1 u2 ([a, 57] ++ [c]) sh [⟨10, 1, IntKind.i64.wrap c, 0, 0, 0, 0⟩]; refine gox ?_; clear fA c1 c2)
  (have fA := aI @hpre (aI @s0 (aI @s1 (aI @g0 (aI @g1 (aI @za1 (aI @l1 (aI @l2 (aI @h1 (aI @h2 (aI @u1 (aI @u2 (aI @za3 @za2)))))))))))); refine finhx ?_; clear fA; try with_reducible rfl)
  all_goals first | rfl | (simp only [List.map_append, List.map_cons, List.map_nil]; rfl)
 ·match r, hm with
  | [], _ =>
   refine (za8 (show T (273 + 1000000000) = some (.hcode a273) from rfl) rfl (by simp only [argEnv, Nat.reduceAdd]; apply Eq.refl) (by simp only [hb, hHeap]; apply Eq.refl)).trans ?_
   have l1 := zac h1
   have l2 := zac h2
   have u1 := zal h1
   have u2 := zal h2
   have s0 : ∀ b v, setR (pre ++ b) 28 v = pre ++ setR b 0 v := fun b v => zae 0 (by omega)
   have s1 : ∀ b v, setR (pre ++ b) 29 v = pre ++ setR b 1 v := fun b v => zae 1 (by omega)
   have g0 : ∀ b : List AV, (pre ++ b)[28]? = b[0]? := fun b => zai 0 (by omega)
   have g1 : ∀ b : List AV, (pre ++ b)[29]? = b[1]? := fun b => zai 1 (by omega)
   have cg : callH L T 271 (tag + 1) [.ref 0 (tag + 1, 0) 28, .int .u8 c] [hb 0 (pre ++ .msl 1000028 (tag + 1, 0) 1 0 2 :: .int .i64 sh :: post), hb 1000028 ([a, 58].map (.int .u8))] = some (.msl 400000 (tag + 1, 0) 7 0 0, [hb 0 (pre ++ .msl 1000028 (tag + 1, 0) 1 0 3 :: .int .i64 sh :: post), hb 400000 [], hb 1000028 (([a, 58] ++ [c]).map (.int .u8))]) := zb8 (tag + 1) pre post hpre u1 u2 [a, 58] sh c (by simp)
   rw [show ask [a, 58] sh c = lxGo [a, 58] sh c from rfl]
   (have fA := aI @hpre (aI @s0 (aI @s1 (aI @g0 (aI @g1 (aI @za1 (aI @l1 (aI @l2 (aI @h1 (aI @h2 (aI @u1 (aI @u2 (aI @za3 @za2)))))))))))); have c1 := cg; refine gox ?_; clear fA c1)
   (have fA := aI @hpre (aI @s0 (aI @s1 (aI @g0 (aI @g1 (aI @za1 (aI @l1 (aI @l2 (aI @h1 (aI @h2 (aI @u1 (aI @u2 (aI @za3 @za2)))))))))))); refine finhx ?_; clear fA; try with_reducible rfl)
   all_goals first | rfl | (simp only [List.map_append, List.map_cons, List.map_nil]; rfl)
  | [x], _ =>
   refine (za8 (show T (273 + 1000000000) = some (.hcode a273) from rfl) rfl (by simp only [argEnv, Nat.reduceAdd]; apply Eq.refl) (by simp only [hb, hHeap]; apply Eq.refl)).trans ?_
   have l1 := zac h1
   have l2 := zac h2
   have u1 := zal h1
   have u2 := zal h2
   have s0 : ∀ b v, setR (pre ++ b) 28 v = pre ++ setR b 0 v := fun b v => zae 0 (by omega)
   have s1 : ∀ b v, setR (pre ++ b) 29 v = pre ++ setR b 1 v := fun b v => zae 1 (by omega)
   have g0 : ∀ b : List AV, (pre ++ b)[28]? = b[0]? := fun b => zai 0 (by omega)
   have g1 : ∀ b : List AV, (pre ++ b)[29]? = b[1]? := fun b => zai 1 (by omega)
   have cg : callH L T 271 (tag + 1) [.ref 0 (tag + 1, 0) 28, .int .u8 c] [hb 0 (pre ++ .msl 1000028 (tag + 1, 0) 1 0 3 :: .int .i64 sh :: post), hb 1000028 ([a, 58, x].map (.int .u8))] = some (.msl 400000 (tag + 1, 0) 7 0 0, [hb 0 (pre ++ .msl 1000028 (tag + 1, 0) 1 0 4 :: .int .i64 sh :: post), hb 400000 [], hb 1000028 (([a, 58, x] ++ [c]).map (.int .u8))]) := zb8 (tag + 1) pre post hpre u1 u2 [a, 58, x] sh c (by simp)
   have wx : IntKind.i64.wrap x = x := by have := hby x (by simp); exact w_i64 (by omega) (by omega)
   rw [show ask [a, 58, x] sh c = lxEnd sh [⟨10, 2, IntKind.i64.wrap x, IntKind.i64.wrap c, 0, 0, 0⟩] from by rw [wx, wc]; rfl]
   (have fA := aI @hpre (aI @s0 (aI @s1 (aI @g0 (aI @g1 (aI @za1 (aI @l1 (aI @l2 (aI @h1 (aI @h2 (aI @u1 (aI @u2 (aI @za3 @za2)))))))))))); have c1 := cg; have c2 := zaf (tag + 1) pre post hpre u1 u2 ([a, 58, x] ++ [c]) sh [⟨10, 2, IntKind.i64.wrap x, IntKind.i64.wrap c, 0, 0, 0⟩]; refine gox ?_; clear fA c1 c2)
   refine Eq.trans zad ?_
   (have fA := aI @hpre (aI @s0 (aI @s1 (aI @g0 (aI @g1 (aI @za1 (aI @l1 (aI @l2 (aI @h1 (aI @h2 (aI @u1 (aI @u2 (aI @za3 @za2)))))))))))); have c1 := cg; have c2 := zaf (tag + 1) pre post hpre u1 u2 ([a, 58, x] ++ [c]) sh [⟨10, 2, IntKind.i64.wrap x, IntKind.i64.wrap c, 0, 0, 0⟩]; refine gox ?_; clear fA c1 c2)
   refine Eq.trans zad ?_
   (have fA := aI @hpre (aI @s0 (aI @s1 (aI @g0 (aI @g1 (aI @za1 (aI @l1 (aI @l2 (aI @h1 (aI @h2 (aI @u1 (aI @u2 (aI @za3 @za2)))))))))))); have c1 := cg; have c2 := zaf (tag + 1) pre post hpre u1 u2 ([a, 58, x] ++ [c]) sh [⟨10, 2, IntKind.i64.wrap x, IntKind.i64.wrap c, 0, 0, 0⟩]; refine gox ?_; clear fA c1 c2)
   refine Eq.trans zad ?_
   (have fA := aI @hpre (aI @s0 (aI @s1 (aI @g0 (aI @g1 (aI @za1 (aI @l1 (aI @l2 (aI @h1 (aI @h2 (aI @u1 (aI @u2 (aI @za3 @za2)))))))))))); have c1 := cg; have c2 := zaf (tag + 1) pre post hpre u1 u2 ([a, 58, x] ++ [c]) sh [⟨10, 2, IntKind.i64.wrap x, IntKind.i64.wrap c, 0, 0, 0⟩]; refine gox ?_; clear fA c1 c2)
   (have fA := aI @hpre (aI @s0 (aI @s1 (aI @g0 (aI @g1 (aI @za1 (aI @l1 (aI @l2 (aI @h1 (aI @h2 (aI @u1 (aI @u2 (aI @za3 @za2)))))))))))); refine finhx ?_; clear fA; try with_reducible rfl)
   all_goals first | rfl | (simp only [List.map_append, List.map_cons, List.map_nil]; rfl)
  | _ :: _ :: _, hm => simp only [List.length_cons] at hm; omega
 ·match r, hm with
  | [], _ =>
   refine (za8 (show T (273 + 1000000000) = some (.hcode a273) from rfl) rfl (by simp only [argEnv, Nat.reduceAdd]; apply Eq.refl) (by simp only [hb, hHeap]; apply Eq.refl)).trans ?_
   have l1 := zac h1
   have l2 := zac h2
   have u1 := zal h1
   have u2 := zal h2
   have s0 : ∀ b v, setR (pre ++ b) 28 v = pre ++ setR b 0 v := fun b v => zae 0 (by omega)
   have s1 : ∀ b v, setR (pre ++ b) 29 v = pre ++ setR b 1 v := fun b v => zae 1 (by omega)
   have g0 : ∀ b : List AV, (pre ++ b)[28]? = b[0]? := fun b => zai 0 (by omega)
   have g1 : ∀ b : List AV, (pre ++ b)[29]? = b[1]? := fun b => zai 1 (by omega)
   have cg : callH L T 271 (tag + 1) [.ref 0 (tag + 1, 0) 28, .int .u8 c] [hb 0 (pre ++ .msl 1000028 (tag + 1, 0) 1 0 2 :: .int .i64 sh :: post), hb 1000028 ([a, 59].map (.int .u8))] = some (.msl 400000 (tag + 1, 0) 7 0 0, [hb 0 (pre ++ .msl 1000028 (tag + 1, 0) 1 0 3 :: .int .i64 sh :: post), hb 400000 [], hb 1000028 (([a, 59] ++ [c]).map (.int .u8))]) := zb8 (tag + 1) pre post hpre u1 u2 [a, 59] sh c (by simp)
   rw [show ask [a, 59] sh c = lxGo [a, 59] sh c from rfl]
   (have fA := aI @hpre (aI @s0 (aI @s1 (aI @g0 (aI @g1 (aI @za1 (aI @l1 (aI @l2 (aI @h1 (aI @h2 (aI @u1 (aI @u2 (aI @za3 @za2)))))))))))); have c1 := cg; refine gox ?_; clear fA c1)
   (have fA := aI @hpre (aI @s0 (aI @s1 (aI @g0 (aI @g1 (aI @za1 (aI @l1 (aI @l2 (aI @h1 (aI @h2 (aI @u1 (aI @u2 (aI @za3 @za2)))))))))))); refine finhx ?_; clear fA; try with_reducible rfl)
   all_goals first | rfl | (simp only [List.map_append, List.map_cons, List.map_nil]; rfl)
  | [x], _ =>
   refine (za8 (show T (273 + 1000000000) = some (.hcode a273) from rfl) rfl (by simp only [argEnv, Nat.reduceAdd]; apply Eq.refl) (by simp only [hb, hHeap]; apply Eq.refl)).trans ?_
   have l1 := zac h1
   have l2 := zac h2
   have u1 := zal h1
   have u2 := zal h2
   have s0 : ∀ b v, setR (pre ++ b) 28 v = pre ++ setR b 0 v := fun b v => zae 0 (by omega)
   have s1 : ∀ b v, setR (pre ++ b) 29 v = pre ++ setR b 1 v := fun b v => zae 1 (by omega)
   have g0 : ∀ b : List AV, (pre ++ b)[28]? = b[0]? := fun b => zai 0 (by omega)
   have g1 : ∀ b : List AV, (pre ++ b)[29]? = b[1]? := fun b => zai 1 (by omega)
   have cg : callH L T 271 (tag + 1) [.ref 0 (tag + 1, 0) 28, .int .u8 c] [hb 0 (pre ++ .msl 1000028 (tag + 1, 0) 1 0 3 :: .int .i64 sh :: post), hb 1000028 ([a, 59, x].map (.int .u8))] = some (.msl 400000 (tag + 1, 0) 7 0 0, [hb 0 (pre ++ .msl 1000028 (tag + 1, 0) 1 0 4 :: .int .i64 sh :: post), hb 400000 [], hb 1000028 (([a, 59, x] ++ [c]).map (.int .u8))]) := zb8 (tag + 1) pre post hpre u1 u2 [a, 59, x] sh c (by simp)
   rw [show ask [a, 59, x] sh c = lxGo [a, 59, x] sh c from rfl]
   (have fA := aI @hpre (aI @s0 (aI @s1 (aI @g0 (aI @g1 (aI @za1 (aI @l1 (aI @l2 (aI @h1 (aI @h2 (aI @u1 (aI @u2 (aI @za3 @za2)))))))))))); have c1 := cg; refine gox ?_; clear fA c1)
   (have fA := aI @hpre (aI @s0 (aI @s1 (aI @g0 (aI @g1 (aI @za1 (aI @l1 (aI @l2 (aI @h1 (aI @h2 (aI @u1 (aI @u2 (aI @za3 @za2)))))))))))); refine finhx ?_; clear fA; try with_reducible rfl)
   all_goals first | rfl | (simp only [List.map_append, List.map_cons, List.map_nil]; rfl)
  | [x, y], _ =>
   refine (za8 (show T (273 + 1000000000) = some (.hcode a273) from rfl) rfl (by simp only [argEnv, Nat.reduceAdd]; apply Eq.refl) (by simp only [hb, hHeap]; apply Eq.refl)).trans ?_
   have l1 := zac h1
   have l2 := zac h2
   have u1 := zal h1
   have u2 := zal h2
   have s0 : ∀ b v, setR (pre ++ b) 28 v = pre ++ setR b 0 v := fun b v => zae 0 (by omega)
   have s1 : ∀ b v, setR (pre ++ b) 29 v = pre ++ setR b 1 v := fun b v => zae 1 (by omega)
   have g0 : ∀ b : List AV, (pre ++ b)[28]? = b[0]? := fun b => zai 0 (by omega)
   have g1 : ∀ b : List AV, (pre ++ b)[29]? = b[1]? := fun b => zai 1 (by omega)
   have cg : callH L T 271 (tag + 1) [.ref 0 (tag + 1, 0) 28, .int .u8 c] [hb 0 (pre ++ .msl 1000028 (tag + 1, 0) 1 0 4 :: .int .i64 sh :: post), hb 1000028 ([a, 59, x, y].map (.int .u8))] = some (.msl 400000 (tag + 1, 0) 7 0 0, [hb 0 (pre ++ .msl 1000028 (tag + 1, 0) 1 0 5 :: .int .i64 sh :: post), hb 400000 [], hb 1000028 (([a, 59, x, y] ++ [c]).map (.int .u8))]) := zb8 (tag + 1) pre post hpre u1 u2 [a, 59, x, y] sh c (by simp)
   have wx : IntKind.i64.wrap x = x := by have := hby x (by simp); exact w_i64 (by omega) (by omega)
   have wy : IntKind.i64.wrap y = y := by have := hby y (by simp); exact w_i64 (by omega) (by omega)
   rw [show ask [a, 59, x, y] sh c = lxEnd sh [⟨10, 3, IntKind.i64.wrap x, IntKind.i64.wrap y, IntKind.i64.wrap c, 0, 0⟩] from by rw [wx, wy, wc]; rfl]
   (have fA := aI @hpre (aI @s0 (aI @s1 (aI @g0 (aI @g1 (aI @za1 (aI @l1 (aI @l2 (aI @h1 (aI @h2 (aI @u1 (aI @u2 (aI @za3 @za2)))))))))))); have c1 := cg; have c2 := zaf (tag + 1) pre post hpre u1 u2 ([a, 59, x, y] ++ [c]) sh [⟨10, 3, IntKind.i64.wrap x, IntKind.i64.wrap y, IntKind.i64.wrap c, 0, 0⟩]; refine gox ?_; clear fA c1 c2)
   refine Eq.trans zad ?_
   (have fA := aI @hpre (aI @s0 (aI @s1 (aI @g0 (aI @g1 (aI @za1 (aI @l1 (aI @l2 (aI @h1 (aI @h2 (aI @u1 (aI @u2 (aI @za3 @za2)))))))))))); have c1 := cg; have c2 := zaf (tag + 1) pre post hpre u1 u2 ([a, 59, x, y] ++ [c]) sh [⟨10, 3, IntKind.i64.wrap x, IntKind.i64.wrap y, IntKind.i64.wrap c, 0, 0⟩]; refine gox ?_; clear fA c1 c2)
   refine Eq.trans zad ?_
   (have fA := aI @hpre (aI @s0 (aI @s1 (aI @g0 (aI @g1 (aI @za1 (aI @l1 (aI @l2 (aI @h1 (aI @h2 (aI @u1 (aI @u2 (aI @za3 @za2)))))))))))); have c1 := cg; have c2 := zaf (tag + 1) pre post hpre u1 u2 ([a, 59, x, y] ++ [c]) sh [⟨10, 3, IntKind.i64.wrap x, IntKind.i64.wrap y, IntKind.i64.wrap c, 0, 0⟩]; refine gox ?_; clear fA c1 c2)
   refine Eq.trans zad ?_
   (have fA := aI @hpre (aI @s0 (aI @s1 (aI @g0 (aI @g1 (aI @za1 (aI @l1 (aI @l2 (aI @h1 (aI @h2 (aI @u1 (aI @u2 (aI @za3 @za2)))))))))))); have c1 := cg; have c2 := zaf (tag + 1) pre post hpre u1 u2 ([a, 59, x, y] ++ [c]) sh [⟨10, 3, IntKind.i64.wrap x, IntKind.i64.wrap y, IntKind.i64.wrap c, 0, 0⟩]; refine gox ?_; clear fA c1 c2)
   refine Eq.trans zad ?_
   (have fA := aI @hpre (aI @s0 (aI @s1 (aI @g0 (aI @g1 (aI @za1 (aI @l1 (aI @l2 (aI @h1 (aI @h2 (aI @u1 (aI @u2 (aI @za3 @za2)))))))))))); have c1 := cg; have c2 := zaf (tag + 1) pre post hpre u1 u2 ([a, 59, x, y] ++ [c]) sh [⟨10, 3, IntKind.i64.wrap x, IntKind.i64.wrap y, IntKind.i64.wrap c, 0, 0⟩]; refine gox ?_; clear fA c1 c2)
   (have fA := aI @hpre (aI @s0 (aI @s1 (aI @g0 (aI @g1 (aI @za1 (aI @l1 (aI @l2 (aI @h1 (aI @h2 (aI @u1 (aI @u2 (aI @za3 @za2)))))))))))); refine finhx ?_; clear fA; try with_reducible rfl)
   all_goals first | rfl | (simp only [List.map_append, List.map_cons, List.map_nil]; rfl)
  | _ :: _ :: _ :: _, hm => simp only [List.length_cons] at hm; omega
end
section
attribute [local simp] Ev.flen Ev.rd Ev.enc
theorem znm (tag : Nat) (pre post : List AV) (hpre : pre.length = 28) (h1 : freeL tag pre = true) (h2 : freeL tag post = true) (p : List Int) (sh : Int) (c : Int) (hok : lxOk p) (hc0 : 0 ≤ c) (hc : c < 128) (hp1 : 1 ≤ p.length) (hp27 : p.getD 0 0 = 27) :
  callH L T 229 tag [.ref 0 (tag, 0) 28, .int .u8 c] [hb 0 (pre ++ .msl 1000028 (tag, 0) 1 0 p.length :: .int .i64 sh :: post), hb 1000028 (p.map (.int .u8))] =
  some (.msl 400000 (tag, 0) 7 0 (esc p sh c).2.2.length, [hb 0 (pre ++ .msl 1000028 (tag, 0) 1 0 (esc p sh c).1.length :: .int .i64 (esc p sh c).2.1 :: post), hb 400000 (flat Ev.enc (esc p sh c).2.2), hb 1000028 ((esc p sh c).1.map (.int .u8))]) := by
 refine (za8 (show T (229 + 1000000000) = some (.hcode a229) from rfl) rfl (by simp only [argEnv, Nat.reduceAdd]; apply Eq.refl) (by simp only [hb, hHeap]; apply Eq.refl)).trans ?_
 have l1 := zac h1
 have l2 := zac h2
 have u1 := zal h1
 have u2 := zal h2
 have s0 : ∀ b v, setR (pre ++ b) 28 v = pre ++ setR b 0 v := fun b v => zae 0 (by omega)
 have s1 : ∀ b v, setR (pre ++ b) 29 v = pre ++ setR b 1 v := fun b v => zae 1 (by omega)
 have g0 : ∀ b : List AV, (pre ++ b)[28]? = b[0]? := fun b => zai 0 (by omega)
 have g1 : ∀ b : List AV, (pre ++ b)[29]? = b[1]? := fun b => zai 1 (by omega)
 have tk : (List.map (AV.int IntKind.u8) p).take p.length = List.map (AV.int IntKind.u8) p := by simp
 have hlen := hok.2.1
 by_cases q : 1 < p.length
 ·have q' : (1 : Int) < (p.length : Int) := by omega
  have hm := hok.2.2 q hp27
  have hby := hok.1
  have gp : (List.map (AV.int IntKind.u8) p)[1]? = some (.int .u8 (p.getD 1 0)) := by simp [show 1 < p.length from by omega]
  have hr := hby (p.getD 1 0) (by rw [List.getD_eq_getElem?_getD, List.getElem?_eq_getElem (show 1 < p.length from by omega)]; exact List.getElem_mem _)
  have wr : IntKind.i64.wrap (p.getD 1 0) = p.getD 1 0 := w_i64 (by omega) (by omega)
  generalize hx : p.getD 1 0 = x at *
  by_cases q91 : x = 91
  ·subst q91
   rw [show esc p sh c = sqn p sh c from by unfold esc; rw [if_pos ⟨q, hx⟩]]
   (have fA := aI @hpre (aI @s0 (aI @s1 (aI @g0 (aI @g1 (aI @tk (aI @za1 (aI @l1 (aI @l2 (aI @h1 (aI @h2 (aI @u1 (aI @u2 (aI @za3 (aI @za2 @gp)))))))))))))); have c1 := zl4 (tag + 1) pre post hpre u1 u2 p sh c (by omega) (by omega) hc0 hc hok.1; refine gox ?_; clear fA c1)
   (have fA := aI @hpre (aI @s0 (aI @s1 (aI @g0 (aI @g1 (aI @tk (aI @za1 (aI @l1 (aI @l2 (aI @h1 (aI @h2 (aI @u1 (aI @u2 (aI @za3 (aI @za2 @gp)))))))))))))); refine finhx ?_; clear fA; try with_reducible rfl)
   all_goals first | rfl | (simp only [List.map_append, List.map_cons, List.map_nil]; rfl)
  by_cases qp : 57 ≤ x ∧ x ≤ 59
  ·obtain ⟨qp1, qp2⟩ := qp
   have hm := hm qp1 qp2
   have e : esc p sh c = ask p sh c := by unfold esc; rw [if_neg (fun e => q91 (hx.symm.trans e.2)), if_pos ⟨q, by omega, by omega⟩]
   have cA := t_asks_28 (tag + 1) pre post hpre u1 u2 p sh c (by omega) (by omega) hc0 hc hok.1 (by omega) (by omega) (by rw [hx]; exact hm)
   rw [show esc p sh c = ask p sh c from by exact e]
   (have fA := aI @hpre (aI @s0 (aI @s1 (aI @g0 (aI @g1 (aI @tk (aI @za1 (aI @l1 (aI @l2 (aI @h1 (aI @h2 (aI @u1 (aI @u2 (aI @za3 (aI @za2 @gp)))))))))))))); have c1 := cA; refine gox ?_; clear fA c1)
   (have fA := aI @hpre (aI @s0 (aI @s1 (aI @g0 (aI @g1 (aI @tk (aI @za1 (aI @l1 (aI @l2 (aI @h1 (aI @h2 (aI @u1 (aI @u2 (aI @za3 (aI @za2 @gp)))))))))))))); refine finhx ?_; clear fA; try with_reducible rfl)
   all_goals first | rfl | (simp only [List.map_append, List.map_cons, List.map_nil]; rfl)
  have n1 : ¬ (1 < p.length ∧ p.getD 1 0 = 91) := fun e => q91 (hx.symm.trans e.2)
  have n2 : ¬ (1 < p.length ∧ 57 ≤ p.getD 1 0 ∧ p.getD 1 0 ≤ 59) := fun e => qp (by rw [← hx]; exact e.2)
  by_cases r1 : c < 48
  ·by_cases r2 : p.length < 15
   ·have r2' : (p.length : Int) < 15 := by omega
    have e : esc p sh c = lxGo p sh c := by unfold esc; rw [if_neg n1, if_neg n2, if_pos ⟨r1, r2⟩]
    rw [e]
    by_cases x57 : 57 ≤ x
    ·have x59 : ¬ x ≤ 59 := fun e => qp ⟨x57, e⟩
     (have fA := aI @hpre (aI @s0 (aI @s1 (aI @g0 (aI @g1 (aI @tk (aI @za1 (aI @l1 (aI @l2 (aI @h1 (aI @h2 (aI @u1 (aI @u2 (aI @za3 (aI @za2 @gp)))))))))))))); have c1 := zb8 (tag + 1) pre post hpre u1 u2 p sh c (by omega); refine gox ?_; clear fA c1)
     (have fA := aI @hpre (aI @s0 (aI @s1 (aI @g0 (aI @g1 (aI @tk (aI @za1 (aI @l1 (aI @l2 (aI @h1 (aI @h2 (aI @u1 (aI @u2 (aI @za3 (aI @za2 @gp)))))))))))))); refine finhx ?_; clear fA; try with_reducible rfl)
     all_goals first | rfl | (simp only [List.map_append, List.map_cons, List.map_nil]; rfl)
    ·(have fA := aI @hpre (aI @s0 (aI @s1 (aI @g0 (aI @g1 (aI @tk (aI @za1 (aI @l1 (aI @l2 (aI @h1 (aI @h2 (aI @u1 (aI @u2 (aI @za3 (aI @za2 @gp)))))))))))))); have c1 := zb8 (tag + 1) pre post hpre u1 u2 p sh c (by omega); refine gox ?_; clear fA c1)
     (have fA := aI @hpre (aI @s0 (aI @s1 (aI @g0 (aI @g1 (aI @tk (aI @za1 (aI @l1 (aI @l2 (aI @h1 (aI @h2 (aI @u1 (aI @u2 (aI @za3 (aI @za2 @gp)))))))))))))); refine finhx ?_; clear fA; try with_reducible rfl)
     all_goals first | rfl | (simp only [List.map_append, List.map_cons, List.map_nil]; rfl)
   ·have r2' : ¬ (p.length : Int) < 15 := by omega
    have e : esc p sh c = lxEnd sh [evI] := by unfold esc; rw [if_neg n1, if_neg n2, if_neg (fun e => r2 e.2), if_pos (.inl r1)]
    rw [e]
    by_cases x57 : 57 ≤ x
    ·have x59 : ¬ x ≤ 59 := fun e => qp ⟨x57, e⟩
     (have fA := aI @hpre (aI @s0 (aI @s1 (aI @g0 (aI @g1 (aI @tk (aI @za1 (aI @l1 (aI @l2 (aI @h1 (aI @h2 (aI @u1 (aI @u2 (aI @za3 (aI @za2 @gp)))))))))))))); have c1 := zb7 (tag + 1); have c2 := zaf (tag + 1) pre post hpre u1 u2 p sh [evI]; refine gox ?_; clear fA c1 c2)
     (have fA := aI @hpre (aI @s0 (aI @s1 (aI @g0 (aI @g1 (aI @tk (aI @za1 (aI @l1 (aI @l2 (aI @h1 (aI @h2 (aI @u1 (aI @u2 (aI @za3 (aI @za2 @gp)))))))))))))); refine finhx ?_; clear fA; try with_reducible rfl)
     all_goals first | rfl | (simp only [List.map_append, List.map_cons, List.map_nil]; rfl)
    ·(have fA := aI @hpre (aI @s0 (aI @s1 (aI @g0 (aI @g1 (aI @tk (aI @za1 (aI @l1 (aI @l2 (aI @h1 (aI @h2 (aI @u1 (aI @u2 (aI @za3 (aI @za2 @gp)))))))))))))); have c1 := zb7 (tag + 1); have c2 := zaf (tag + 1) pre post hpre u1 u2 p sh [evI]; refine gox ?_; clear fA c1 c2)
     (have fA := aI @hpre (aI @s0 (aI @s1 (aI @g0 (aI @g1 (aI @tk (aI @za1 (aI @l1 (aI @l2 (aI @h1 (aI @h2 (aI @u1 (aI @u2 (aI @za3 (aI @za2 @gp)))))))))))))); refine finhx ?_; clear fA; try with_reducible rfl)
     all_goals first | rfl | (simp only [List.map_append, List.map_cons, List.map_nil]; rfl)
  ·have e : esc p sh c = lxEnd sh [evI] := by unfold esc; rw [if_neg n1, if_neg n2, if_neg (fun e => r1 e.1), if_pos (.inr q)]
   rw [e]
   by_cases x57 : 57 ≤ x
   ·have x59 : ¬ x ≤ 59 := fun e => qp ⟨x57, e⟩
    (have fA := aI @hpre (aI @s0 (aI @s1 (aI @g0 (aI @g1 (aI @tk (aI @za1 (aI @l1 (aI @l2 (aI @h1 (aI @h2 (aI @u1 (aI @u2 (aI @za3 (aI @za2 @gp)))))))))))))); have c1 := zb7 (tag + 1); have c2 := zaf (tag + 1) pre post hpre u1 u2 p sh [evI]; refine gox ?_; clear fA c1 c2)
    (have fA := aI @hpre (aI @s0 (aI @s1 (aI @g0 (aI @g1 (aI @tk (aI @za1 (aI @l1 (aI @l2 (aI @h1 (aI @h2 (aI @u1 (aI @u2 (aI @za3 (aI @za2 @gp)))))))))))))); refine finhx ?_; clear fA; try with_reducible rfl)
    all_goals first | rfl | (simp only [List.map_append, List.map_cons, List.map_nil]; rfl)
   ·(have fA := aI @hpre (aI @s0 (aI @s1 (aI @g0 (aI @g1 (aI @tk (aI @za1 (aI @l1 (aI @l2 (aI @h1 (aI @h2 (aI @u1 (aI @u2 (aI @za3 (aI @za2 @gp)))))))))))))); have c1 := zb7 (tag + 1); have c2 := zaf (tag + 1) pre post hpre u1 u2 p sh [evI]; refine gox ?_; clear fA c1 c2)
    (have fA := aI @hpre (aI @s0 (aI @s1 (aI @g0 (aI @g1 (aI @tk (aI @za1 (aI @l1 (aI @l2 (aI @h1 (aI @h2 (aI @u1 (aI @u2 (aI @za3 (aI @za2 @gp)))))))))))))); refine finhx ?_; clear fA; try with_reducible rfl)
    all_goals first | rfl | (simp only [List.map_append, List.map_cons, List.map_nil]; rfl)
 ·have q' : ¬ (1 : Int) < (p.length : Int) := by omega
  have q15 : (p.length : Int) < 15 := by omega
  have n1 : ¬ (1 < p.length ∧ p.getD 1 0 = 91) := fun e => q e.1
  have n2 : ¬ (1 < p.length ∧ 57 ≤ p.getD 1 0 ∧ p.getD 1 0 ≤ 59) := fun e => q e.1
  by_cases r1 : c < 48
  ·rw [show esc p sh c = lxGo p sh c from by unfold esc; rw [if_neg n1, if_neg n2, if_pos ⟨r1, by omega⟩]]
   (have fA := aI @hpre (aI @s0 (aI @s1 (aI @g0 (aI @g1 (aI @tk (aI @za1 (aI @l1 (aI @l2 (aI @h1 (aI @h2 (aI @u1 (aI @u2 (aI @za3 @za2))))))))))))); have c1 := zb8 (tag + 1) pre post hpre u1 u2 p sh c (by omega); refine gox ?_; clear fA c1)
   (have fA := aI @hpre (aI @s0 (aI @s1 (aI @g0 (aI @g1 (aI @tk (aI @za1 (aI @l1 (aI @l2 (aI @h1 (aI @h2 (aI @u1 (aI @u2 (aI @za3 @za2))))))))))))); refine finhx ?_; clear fA; try with_reducible rfl)
   all_goals first | rfl | (simp only [List.map_append, List.map_cons, List.map_nil]; rfl)
  have n3 : ¬ (c < 48 ∧ p.length < 15) := fun e => r1 e.1
  have n4 : ¬ (c < 48 ∨ 1 < p.length) := fun e => e.elim r1 q
  by_cases r2 : c = 91
  ·subst r2
   rw [show esc p sh 91 = lxGo p sh 91 from by unfold esc; rw [if_neg n1, if_neg n2, if_neg n3, if_neg n4, if_pos (.inl rfl)]]
   (have fA := aI @hpre (aI @s0 (aI @s1 (aI @g0 (aI @g1 (aI @tk (aI @za1 (aI @l1 (aI @l2 (aI @h1 (aI @h2 (aI @u1 (aI @u2 (aI @za3 @za2))))))))))))); have c1 := zb8 (tag + 1) pre post hpre u1 u2 p sh 91 (by omega); refine gox ?_; clear fA c1)
   (have fA := aI @hpre (aI @s0 (aI @s1 (aI @g0 (aI @g1 (aI @tk (aI @za1 (aI @l1 (aI @l2 (aI @h1 (aI @h2 (aI @u1 (aI @u2 (aI @za3 @za2))))))))))))); refine finhx ?_; clear fA; try with_reducible rfl)
   all_goals first | rfl | (simp only [List.map_append, List.map_cons, List.map_nil]; rfl)
  by_cases r3 : 57 ≤ c
  ·by_cases r4 : c ≤ 59
   ·rw [show esc p sh c = lxGo p sh c from by unfold esc; rw [if_neg n1, if_neg n2, if_neg n3, if_neg n4, if_pos (.inr ⟨r3, r4⟩)]]
    (have fA := aI @hpre (aI @s0 (aI @s1 (aI @g0 (aI @g1 (aI @tk (aI @za1 (aI @l1 (aI @l2 (aI @h1 (aI @h2 (aI @u1 (aI @u2 (aI @za3 @za2))))))))))))); have c1 := zb8 (tag + 1) pre post hpre u1 u2 p sh c (by omega); refine gox ?_; clear fA c1)
    (have fA := aI @hpre (aI @s0 (aI @s1 (aI @g0 (aI @g1 (aI @tk (aI @za1 (aI @l1 (aI @l2 (aI @h1 (aI @h2 (aI @u1 (aI @u2 (aI @za3 @za2))))))))))))); refine finhx ?_; clear fA; try with_reducible rfl)
    all_goals first | rfl | (simp only [List.map_append, List.map_cons, List.map_nil]; rfl)
   have n5 : ¬ (c = 91 ∨ (57 ≤ c ∧ c ≤ 59)) := fun e => e.elim r2 (fun e => r4 e.2)
   by_cases r5 : 64 ≤ c
   ·by_cases r6 : c ≤ 95
    ·have wc : IntKind.i64.wrap c = c := w_i64 (by omega) (by omega)
     rw [show esc p sh c = lxEnd sh [ev1 6 (IntKind.i64.wrap c)] from by unfold esc; rw [if_neg n1, if_neg n2, if_neg n3, if_neg n4, if_neg n5, if_pos ⟨r5, r6⟩, wc]]
     (have fA := aI @hpre (aI @s0 (aI @s1 (aI @g0 (aI @g1 (aI @tk (aI @za1 (aI @l1 (aI @l2 (aI @h1 (aI @h2 (aI @u1 (aI @u2 (aI @za3 @za2))))))))))))); have c1 := t_one (tag + 1) 6 (IntKind.i64.wrap c); have c2 := zaf (tag + 1) pre post hpre u1 u2 p sh [ev1 6 (IntKind.i64.wrap c)]; refine gox ?_; clear fA c1 c2)
     (have fA := aI @hpre (aI @s0 (aI @s1 (aI @g0 (aI @g1 (aI @tk (aI @za1 (aI @l1 (aI @l2 (aI @h1 (aI @h2 (aI @u1 (aI @u2 (aI @za3 @za2))))))))))))); refine finhx ?_; clear fA; try with_reducible rfl)
     all_goals first | rfl | (simp only [List.map_append, List.map_cons, List.map_nil]; rfl)
    ·rw [show esc p sh c = lxEnd sh [evI] from by unfold esc; rw [if_neg n1, if_neg n2, if_neg n3, if_neg n4, if_neg n5, if_neg (fun e => r6 e.2)]]
     (have fA := aI @hpre (aI @s0 (aI @s1 (aI @g0 (aI @g1 (aI @tk (aI @za1 (aI @l1 (aI @l2 (aI @h1 (aI @h2 (aI @u1 (aI @u2 (aI @za3 @za2))))))))))))); have c1 := zb7 (tag + 1); have c2 := zaf (tag + 1) pre post hpre u1 u2 p sh [evI]; refine gox ?_; clear fA c1 c2)
     (have fA := aI @hpre (aI @s0 (aI @s1 (aI @g0 (aI @g1 (aI @tk (aI @za1 (aI @l1 (aI @l2 (aI @h1 (aI @h2 (aI @u1 (aI @u2 (aI @za3 @za2))))))))))))); refine finhx ?_; clear fA; try with_reducible rfl)
     all_goals first | rfl | (simp only [List.map_append, List.map_cons, List.map_nil]; rfl)
   ·rw [show esc p sh c = lxEnd sh [evI] from by unfold esc; rw [if_neg n1, if_neg n2, if_neg n3, if_neg n4, if_neg n5, if_neg (fun e => r5 e.1)]]
    (have fA := aI @hpre (aI @s0 (aI @s1 (aI @g0 (aI @g1 (aI @tk (aI @za1 (aI @l1 (aI @l2 (aI @h1 (aI @h2 (aI @u1 (aI @u2 (aI @za3 @za2))))))))))))); have c1 := zb7 (tag + 1); have c2 := zaf (tag + 1) pre post hpre u1 u2 p sh [evI]; refine gox ?_; clear fA c1 c2)
    (have fA := aI @hpre (aI @s0 (aI @s1 (aI @g0 (aI @g1 (aI @tk (aI @za1 (aI @l1 (aI @l2 (aI @h1 (aI @h2 (aI @u1 (aI @u2 (aI @za3 @za2))))))))))))); refine finhx ?_; clear fA; try with_reducible rfl)
    all_goals first | rfl | (simp only [List.map_append, List.map_cons, List.map_nil]; rfl)
  ·have n5 : ¬ (c = 91 ∨ (57 ≤ c ∧ c ≤ 59)) := fun e => e.elim r2 (fun e => r3 e.1)
   have r5 : ¬ 64 ≤ c := by omega
   rw [show esc p sh c = lxEnd sh [evI] from by unfold esc; rw [if_neg n1, if_neg n2, if_neg n3, if_neg n4, if_neg n5, if_neg (fun e => r5 e.1)]]
   (have fA := aI @hpre (aI @s0 (aI @s1 (aI @g0 (aI @g1 (aI @tk (aI @za1 (aI @l1 (aI @l2 (aI @h1 (aI @h2 (aI @u1 (aI @u2 (aI @za3 @za2))))))))))))); have c1 := zb7 (tag + 1); have c2 := zaf (tag + 1) pre post hpre u1 u2 p sh [evI]; refine gox ?_; clear fA c1 c2)
   (have fA := aI @hpre (aI @s0 (aI @s1 (aI @g0 (aI @g1 (aI @tk (aI @za1 (aI @l1 (aI @l2 (aI @h1 (aI @h2 (aI @u1 (aI @u2 (aI @za3 @za2))))))))))))); refine finhx ?_; clear fA; try with_reducible rfl)
   all_goals first | rfl | (simp only [List.map_append, List.map_cons, List.map_nil]; rfl)
end
section
attribute [local simp] Ev.flen Ev.rd Ev.enc
theorem tkE (es : List Ev) : List.take (es.length * 7) (flat Ev.enc es) = flat Ev.enc es := List.take_of_length_le (by rw [Ev.flen]; exact Nat.le_refl _)
theorem ctlE_len (c : Int) : (ctlE c).length ≤ 1 := by
 unfold ctlE
 by_cases q0 : c = 7
 ·rw [if_pos q0]; exact Nat.le_refl _
 rw [if_neg q0]
 by_cases q1 : 8 ≤ c ∧ c ≤ 11
 ·rw [if_pos q1]; exact Nat.le_refl _
 rw [if_neg q1]
 by_cases q2 : c = 13
 ·rw [if_pos q2]; exact Nat.le_refl _
 rw [if_neg q2]
 by_cases q3 : c = 12
 ·rw [if_pos q3]; exact Nat.le_refl _
 rw [if_neg q3]
 by_cases q4 : c = 24
 ·rw [if_pos q4]; exact Nat.le_refl _
 rw [if_neg q4]
 by_cases q5 : c = 17
 ·rw [if_pos q5]; exact Nat.le_refl _
 rw [if_neg q5]
 by_cases q6 : c = 20
 ·rw [if_pos q6]; exact Nat.le_refl _
 rw [if_neg q6]
 by_cases q7 : c = 26
 ·rw [if_pos q7]; exact Nat.le_refl _
 rw [if_neg q7]
 by_cases q8 : c = 30
 ·rw [if_pos q8]; exact Nat.le_refl _
 rw [if_neg q8]
 exact Nat.le_refl _
theorem ctl_len (p : List Int) (sh c : Int) : (ctl p sh c).2.2.length ≤ 1 := by
 unfold ctl
 by_cases q0 : c = 18 ∨ c = 25 ∨ c = 27 ∨ c = 31
 ·rw [if_pos q0]; exact Nat.zero_le _
 rw [if_neg q0]
 by_cases q1 : c = 14
 ·rw [if_pos q1]; exact Nat.zero_le _
 rw [if_neg q1]
 by_cases q2 : c = 15
 ·rw [if_pos q2]; exact Nat.zero_le _
 rw [if_neg q2]
 exact ctlE_len c
theorem t_Byte_28 (tag : Nat) (pre post : List AV) (hpre : pre.length = 28) (h1 : freeL tag pre = true) (h2 : freeL tag post = true) (p : List Int) (sh : Int) (b : Int) (hok : lxOk p) (hb0 : 0 ≤ b) (hb1 : b < 256) (hp0 : p.length = 0 ∨ p.getD 0 0 = 18 ∨ p.getD 0 0 = 25 ∨ p.getD 0 0 = 27 ∨ p.getD 0 0 = 31) :
  callH L T 183 tag [.ref 0 (tag, 0) 28, .int .u8 b] [hb 0 (pre ++ .msl 1000028 (tag, 0) 1 0 p.length :: .int .i64 sh :: post), hb 1000028 (p.map (.int .u8))] =
  some (.msl 400000 (tag, 0) 7 0 (lxB p sh b).2.2.length, [hb 0 (pre ++ .msl 1000028 (tag, 0) 1 0 (lxB p sh b).1.length :: .int .i64 (lxB p sh b).2.1 :: post), hb 400000 (flat Ev.enc (lxB p sh b).2.2), hb 1000028 ((lxB p sh b).1.map (.int .u8))]) := by
 refine (za8 (show T (183 + 1000000000) = some (.hcode a183) from rfl) rfl (by simp only [argEnv, Nat.reduceAdd]; apply Eq.refl) (by simp only [hb, hHeap]; apply Eq.refl)).trans ?_
 have l1 := zac h1
 have l2 := zac h2
 have u1 := zal h1
 have u2 := zal h2
 have s0 : ∀ b v, setR (pre ++ b) 28 v = pre ++ setR b 0 v := fun b v => zae 0 (by omega)
 have s1 : ∀ b v, setR (pre ++ b) 29 v = pre ++ setR b 1 v := fun b v => zae 1 (by omega)
 have g0 : ∀ b : List AV, (pre ++ b)[28]? = b[0]? := fun b => zai 0 (by omega)
 have g1 : ∀ b : List AV, (pre ++ b)[29]? = b[1]? := fun b => zai 1 (by omega)
 have tk : (List.map (AV.int IntKind.u8) p).take p.length = List.map (AV.int IntKind.u8) p := by simp
 have cE := fun tag => zgn tag b hb0 hb1
 have hcr := zpa hb0 hb1
 have hlen := hok.2.1
 cases hodd : oddI b with
 | true =>
  rw [hodd] at cE
  have ec : lxC b = 26 := by unfold lxC; rw [if_pos hodd]
  have eB : lxB p sh b = ((ctl [] sh 26).1, (ctl [] sh 26).2.1, (if 0 < p.length then [evI] else []) ++ (ctl [] sh 26).2.2) := by unfold lxB; rw [ec]; rfl
  rw [eB]
  have cC := zhx (tag + 1) pre post hpre u1 u2 [] sh 26 (by simp) (by omega) (by omega)
  have hle := ctl_len [] sh 26
  generalize ctl [] sh 26 = R at cC hle ⊢
  obtain ⟨p2, sh2, es⟩ := R
  simp only at cC hle ⊢
  by_cases q : 0 < p.length
  ·have q2 : (0 : Int) < (p.length : Int) := by omega
   rw [if_pos q]
   (have fA := aI @hpre (aI @s0 (aI @s1 (aI @g0 (aI @g1 (aI @tk (aI @za1 (aI @l1 (aI @l2 (aI @h1 (aI @h2 (aI @u1 (aI @u2 (aI @za3 (aI @za2 @tkE)))))))))))))); have c1 := fun x1 => cE x1; have c2 := zb7 (tag + 1); have c3 := zaf (tag + 1) pre post hpre u1 u2 p sh [evI]; have c4 := cC; refine gox ?_; clear fA c1 c2 c3 c4)
   (have fA := aI @hpre (aI @s0 (aI @s1 (aI @g0 (aI @g1 (aI @tk (aI @za1 (aI @l1 (aI @l2 (aI @h1 (aI @h2 (aI @u1 (aI @u2 (aI @za3 (aI @za2 @tkE)))))))))))))); refine finhx ?_; clear fA; try with_reducible rfl)
   all_goals first | rfl | (simp only [List.length_append, Nat.zero_add, List.nil_append] <;> rfl)
  ·have q2 : ¬ (0 : Int) < (p.length : Int) := by omega
   obtain rfl : p = [] := List.eq_nil_of_length_eq_zero (by omega)
   rw [if_neg q]
   (have fA := aI @hpre (aI @s0 (aI @s1 (aI @g0 (aI @g1 (aI @tk (aI @za1 (aI @l1 (aI @l2 (aI @h1 (aI @h2 (aI @u1 (aI @u2 (aI @za3 (aI @za2 @tkE)))))))))))))); have c1 := fun x1 => cE x1; have c2 := cC; refine gox ?_; clear fA c1 c2)
   (have fA := aI @hpre (aI @s0 (aI @s1 (aI @g0 (aI @g1 (aI @tk (aI @za1 (aI @l1 (aI @l2 (aI @h1 (aI @h2 (aI @u1 (aI @u2 (aI @za3 (aI @za2 @tkE)))))))))))))); refine finhx ?_; clear fA; try with_reducible rfl)
   all_goals first | rfl | (simp only [List.length_append, Nat.zero_add, List.nil_append] <;> rfl)
 | false =>
  rw [hodd] at cE
  have ec : lxC b = bAnd .u8 b 127 := by unfold lxC; rw [if_neg (by simp [hodd])]
  rw [ec] at hcr
  unfold lxB
  rw [ec]
  obtain ⟨hc0, hc⟩ := hcr
  by_cases q32 : bAnd .u8 b 127 < 32
  ·rw [if_pos q32]
   have cC := zhx (tag + 1) pre post hpre u1 u2 [] sh (bAnd .u8 b 127) (by simp) (by omega) (by omega)
   have hle := ctl_len [] sh (bAnd .u8 b 127)
   generalize ctl [] sh (bAnd .u8 b 127) = R at cC hle ⊢
   obtain ⟨p2, sh2, es⟩ := R
   simp only at cC hle ⊢
   by_cases q : 0 < p.length
   ·have q2 : (0 : Int) < (p.length : Int) := by omega
    rw [if_pos q]
    (have fA := aI @hpre (aI @s0 (aI @s1 (aI @g0 (aI @g1 (aI @tk (aI @za1 (aI @l1 (aI @l2 (aI @h1 (aI @h2 (aI @u1 (aI @u2 (aI @za3 (aI @za2 @tkE)))))))))))))); have c1 := fun x1 => cE x1; have c2 := zb7 (tag + 1); have c3 := zaf (tag + 1) pre post hpre u1 u2 p sh [evI]; have c4 := cC; refine gox ?_; clear fA c1 c2 c3 c4)
    (have fA := aI @hpre (aI @s0 (aI @s1 (aI @g0 (aI @g1 (aI @tk (aI @za1 (aI @l1 (aI @l2 (aI @h1 (aI @h2 (aI @u1 (aI @u2 (aI @za3 (aI @za2 @tkE)))))))))))))); refine finhx ?_; clear fA; try with_reducible rfl)
    all_goals first | rfl | (simp only [List.length_append, Nat.zero_add, List.nil_append] <;> rfl)
   ·have q2 : ¬ (0 : Int) < (p.length : Int) := by omega
    obtain rfl : p = [] := List.eq_nil_of_length_eq_zero (by omega)
    rw [if_neg q]
    (have fA := aI @hpre (aI @s0 (aI @s1 (aI @g0 (aI @g1 (aI @tk (aI @za1 (aI @l1 (aI @l2 (aI @h1 (aI @h2 (aI @u1 (aI @u2 (aI @za3 (aI @za2 @tkE)))))))))))))); have c1 := fun x1 => cE x1; have c2 := cC; refine gox ?_; clear fA c1 c2)
    (have fA := aI @hpre (aI @s0 (aI @s1 (aI @g0 (aI @g1 (aI @tk (aI @za1 (aI @l1 (aI @l2 (aI @h1 (aI @h2 (aI @u1 (aI @u2 (aI @za3 (aI @za2 @tkE)))))))))))))); refine finhx ?_; clear fA; try with_reducible rfl)
    all_goals first | rfl | (simp only [List.length_append, Nat.zero_add, List.nil_append] <;> rfl)
  rw [if_neg q32]
  by_cases q : p.length = 0
  ·have q2 : ((p.length : Nat) : Int) = 0 := by omega
   rw [if_pos q]
   (have fA := aI @hpre (aI @s0 (aI @s1 (aI @g0 (aI @g1 (aI @tk (aI @za1 (aI @l1 (aI @l2 (aI @h1 (aI @h2 (aI @u1 (aI @u2 (aI @za3 (aI @za2 @tkE)))))))))))))); have c1 := fun x1 => cE x1; have c2 := t_char (tag + 1) sh (bAnd .u8 b 127) (by omega) (by omega); refine gox ?_; clear fA c1 c2)
   (have fA := aI @hpre (aI @s0 (aI @s1 (aI @g0 (aI @g1 (aI @tk (aI @za1 (aI @l1 (aI @l2 (aI @h1 (aI @h2 (aI @u1 (aI @u2 (aI @za3 (aI @za2 @tkE)))))))))))))); refine finhx ?_; clear fA; try with_reducible rfl)
   all_goals first | rfl | (simp only [List.length_append, Nat.zero_add, List.nil_append] <;> rfl)
  rw [if_neg q]
  have q2 : ¬ ((p.length : Nat) : Int) = 0 := by omega
  have gp0 : (List.map (AV.int IntKind.u8) p)[0]? = some (.int .u8 (p.getD 0 0)) := by simp [show 0 < p.length from by omega]
  have hby := hok.1
  rcases hp0 with h | h | h | h | h
  ·exact absurd h q
  ·rw [h] at gp0
   rw [if_pos h]
   (have fA := aI @hpre (aI @s0 (aI @s1 (aI @g0 (aI @g1 (aI @tk (aI @za1 (aI @l1 (aI @l2 (aI @h1 (aI @h2 (aI @u1 (aI @u2 (aI @za3 (aI @za2 (aI @tkE @gp0))))))))))))))); have c1 := fun x1 => cE x1; have c2 := t_one (tag + 1) 7 (IntKind.i64.wrap (bAnd .u8 (bAnd .u8 b 127) 63)); have c3 := zaf (tag + 1) pre post hpre u1 u2 p sh [ev1 7 (IntKind.i64.wrap (bAnd .u8 (bAnd .u8 b 127) 63))]; refine gox ?_; clear fA c1 c2 c3)
   (have fA := aI @hpre (aI @s0 (aI @s1 (aI @g0 (aI @g1 (aI @tk (aI @za1 (aI @l1 (aI @l2 (aI @h1 (aI @h2 (aI @u1 (aI @u2 (aI @za3 (aI @za2 @tkE)))))))))))))); refine finhx ?_; clear fA; try with_reducible rfl)
   rw [zqf]
   all_goals first | rfl | (simp only [List.length_append, Nat.zero_add, List.nil_append] <;> rfl)
  ·rw [h] at gp0
   rw [if_neg (by rw [h]; decide), if_pos h]
   (have fA := aI @hpre (aI @s0 (aI @s1 (aI @g0 (aI @g1 (aI @tk (aI @za1 (aI @l1 (aI @l2 (aI @h1 (aI @h2 (aI @u1 (aI @u2 (aI @za3 (aI @za2 (aI @tkE @gp0))))))))))))))); have c1 := fun x1 => cE x1; have c2 := t_sign_28 (tag + 1) pre post hpre u1 u2 p sh (bAnd .u8 b 127) (by omega) hc0 hc hby; refine gox ?_; clear fA c1 c2)
   (have fA := aI @hpre (aI @s0 (aI @s1 (aI @g0 (aI @g1 (aI @tk (aI @za1 (aI @l1 (aI @l2 (aI @h1 (aI @h2 (aI @u1 (aI @u2 (aI @za3 (aI @za2 @tkE)))))))))))))); refine finhx ?_; clear fA; try with_reducible rfl)
   all_goals first | rfl | (simp only [List.length_append, Nat.zero_add, List.nil_append] <;> rfl)
  ·rw [h] at gp0
   rw [if_neg (by rw [h]; decide), if_neg (by rw [h]; decide), if_neg (by rw [h]; decide)]
   (have fA := aI @hpre (aI @s0 (aI @s1 (aI @g0 (aI @g1 (aI @tk (aI @za1 (aI @l1 (aI @l2 (aI @h1 (aI @h2 (aI @u1 (aI @u2 (aI @za3 (aI @za2 (aI @tkE @gp0))))))))))))))); have c1 := fun x1 => cE x1; have c2 := znm (tag + 1) pre post hpre u1 u2 p sh (bAnd .u8 b 127) hok hc0 hc (by omega) h; refine gox ?_; clear fA c1 c2)
   (have fA := aI @hpre (aI @s0 (aI @s1 (aI @g0 (aI @g1 (aI @tk (aI @za1 (aI @l1 (aI @l2 (aI @h1 (aI @h2 (aI @u1 (aI @u2 (aI @za3 (aI @za2 @tkE)))))))))))))); refine finhx ?_; clear fA; try with_reducible rfl)
   all_goals first | rfl | (simp only [List.length_append, Nat.zero_add, List.nil_append] <;> rfl)
  ·rw [h] at gp0
   rw [if_neg (by rw [h]; decide), if_neg (by rw [h]; decide), if_pos h]
   (have fA := aI @hpre (aI @s0 (aI @s1 (aI @g0 (aI @g1 (aI @tk (aI @za1 (aI @l1 (aI @l2 (aI @h1 (aI @h2 (aI @u1 (aI @u2 (aI @za3 (aI @za2 (aI @tkE @gp0))))))))))))))); have c1 := fun x1 => cE x1; have c2 := t_place_28 (tag + 1) pre post hpre u1 u2 p sh (bAnd .u8 b 127) (by omega) hc0 hc hby; refine gox ?_; clear fA c1 c2)
   (have fA := aI @hpre (aI @s0 (aI @s1 (aI @g0 (aI @g1 (aI @tk (aI @za1 (aI @l1 (aI @l2 (aI @h1 (aI @h2 (aI @u1 (aI @u2 (aI @za3 (aI @za2 @tkE)))))))))))))); refine finhx ?_; clear fA; try with_reducible rfl)
   all_goals first | rfl | (simp only [List.length_append, Nat.zero_add, List.nil_append] <;> rfl)
end
end Go.Proofs.YtbaenaalfpcaaaaGreatDoor
