/- The interpreter with its rest spelled out: equations for working a function off from its head on. -/
import Derived.Test.YtmckiigefkfpaaaDoorSimTab
set_option linter.unusedVariables false
set_option linter.unusedSimpArgs false
namespace Go.Sim
open Go

/-- What is still to be done behind a piece of code. -/
inductive Fr where
  | seq (b : Code)
  | blk (id : Nat)
  | loop (a : Code)

abbrev Ans := Option (AV × List (Option (List AV)))

/-- A function's surroundings. -/
structure Fx where
  L : Nat → Option TI
  K : Ann
  Γ : Oracle
  np : Nat
  frz : List Nat
  results : List ResultVar
  lent : List (Option (List AV))

def fin (F : Fx) : Ex → St → Ans
  | .exit _, _ => none
  | _, st => (getAll F.L st F.results).bind fun gs => (freezeAll F.np F.frz st gs).bind fun vs => (lentOut st 0 F.lent).bind fun r => some (oneOrTup vs.1, r)

noncomputable def loopOf (F : Fx) (a : Code) (st : St) : Option (Ex × St) :=
  loopω (fun s => den loopω F.L F.K F.Γ a (trim (F.K.heads.find? (·.1 == firstRegion a)) s)) st

noncomputable def ret (F : Fx) : List Fr → Ex → St → Ans
  | [], e, st => fin F e st
  | .seq b :: ks, .normal, st => (den loopω F.L F.K F.Γ b st).bind fun r => ret F ks r.1 r.2
  | .seq _ :: ks, e, st => ret F ks e st
  | .blk id :: ks, .exit j, st => if j = id then ret F ks .normal st else ret F ks (.exit j) st
  | .blk _ :: ks, e, st => ret F ks e st
  | .loop a :: ks, .normal, st => (loopOf F a st).bind fun r => ret F ks r.1 r.2
  | .loop _ :: ks, e, st => ret F ks e st

noncomputable def go (F : Fx) (c : Code) (ks : List Fr) (st : St) : Ans := (den loopω F.L F.K F.Γ c st).bind fun r => ret F ks r.1 r.2

noncomputable def goOps (F : Fx) (ops l : List Oper) (ks : List Fr) (st : St) : Ans := (denOps F.L F.K F.Γ ops l st).bind fun st' => ret F ks .normal (tidy F.K.cross ops st')

noncomputable def stepK (F : Fx) (ops l : List Oper) (ks : List Fr) (d : Option Nat) (r : Option (AV × St)) : Ans := r.bind fun p => goOps F ops l ks (putD p.2 d p.1)

noncomputable def guardK (F : Fx) (ops l : List Oper) (ks : List Fr) (o : Oper) (st : St) (r : Option Bool) : Ans := match r with
  | some true => stepK F ops l ks o.dst (denOp F.L F.K F.Γ st (o.dst.getD 0) o.type o.op)
  | some false => goOps F ops l ks (putD st o.dst (.tup []))
  | none => none

noncomputable def condK (F : Fx) (a b : Code) (ks : List Fr) (st : St) (v : AV) : Ans := match v with
  | .bool x => if x then go F a ks st else go F b ks st
  | _ => none

noncomputable def loopK (F : Fx) (a : Code) (ks : List Fr) (st : St) : Ans := (loopOf F a st).bind fun r => ret F ks r.1 r.2

section
variable {F : Fx} {ks : List Fr} {st : St}

theorem go_skip : go F .skip ks st = ret F ks .normal st := rfl
theorem go_ret : go F .ret ks st = ret F ks .ret st := rfl
theorem go_exit {id : Nat} : go F (.exit id) ks st = ret F ks (.exit id) st := rfl
theorem go_region {id : Nat} {ops : Array Oper} {draw : Bool} : go F (.region id ops draw) ks st = goOps F ops.toList ops.toList ks st := by
  simp only [go, den, goOps]
  cases denOps F.L F.K F.Γ ops.toList ops.toList st <;> rfl
theorem go_seq {a b : Code} : go F (.seq a b) ks st = go F a (.seq b :: ks) st := by
  simp only [go, den]
  cases den loopω F.L F.K F.Γ a st with
  | none => rfl
  | some p => obtain ⟨e, s⟩ := p; cases e <;> rfl
theorem go_cond {c : Operand} {a b : Code} : go F (.cond c a b) ks st = condK F a b ks st (operand st c) := by
  simp only [go, den, condK]
  cases operand st c <;> first | rfl | skip
  rename_i x
  cases x <;> rfl
theorem go_block {id : Nat} {a : Code} : go F (.block id a) ks st = go F a (.blk id :: ks) st := by
  simp only [go, den]
  cases den loopω F.L F.K F.Γ a st with
  | none => rfl
  | some p =>
    obtain ⟨e, s⟩ := p
    cases e with
    | exit j =>
      simp only [Option.bind_some, ret]
      by_cases h : j = id
      · rw [if_pos h, if_pos h]; rfl
      · rw [if_neg h, if_neg h]; rfl
    | _ => rfl
theorem go_loop {a : Code} : go F (.loop a) ks st = loopK F a ks st := rfl

/-- A round of a loop. -/
theorem loopK_eq {a : Code} : loopK F a ks st = go F a (.loop a :: ks) (trim (F.K.heads.find? (·.1 == firstRegion a)) st) := by
  simp only [loopK, go, loopOf]
  rw [loopω_eq]
  cases den loopω F.L F.K F.Γ a (trim (F.K.heads.find? (·.1 == firstRegion a)) st) with
  | none => rfl
  | some p => obtain ⟨e, s⟩ := p; cases e <;> rfl

theorem ret_nil {e : Ex} : ret F [] e st = fin F e st := by cases e <;> rfl
theorem ret_seq {b : Code} : ret F (.seq b :: ks) .normal st = go F b ks st := rfl
theorem ret_seq_exit {b : Code} {j : Nat} : ret F (.seq b :: ks) (.exit j) st = ret F ks (.exit j) st := rfl
theorem ret_seq_ret {b : Code} : ret F (.seq b :: ks) .ret st = ret F ks .ret st := rfl
theorem ret_blk {id : Nat} : ret F (.blk id :: ks) .normal st = ret F ks .normal st := rfl
theorem ret_blk_ret {id : Nat} : ret F (.blk id :: ks) .ret st = ret F ks .ret st := rfl
theorem ret_blk_exit {id j : Nat} : ret F (.blk id :: ks) (.exit j) st = if j = id then ret F ks .normal st else ret F ks (.exit j) st := rfl
theorem ret_loop {a : Code} : ret F (.loop a :: ks) .normal st = loopK F a ks st := rfl
theorem ret_loop_exit {a : Code} {j : Nat} : ret F (.loop a :: ks) (.exit j) st = ret F ks (.exit j) st := rfl
theorem ret_loop_ret {a : Code} : ret F (.loop a :: ks) .ret st = ret F ks .ret st := rfl

theorem goOps_nil {ops : List Oper} : goOps F ops [] ks st = ret F ks .normal (tidy F.K.cross ops st) := rfl

theorem goOps_cons {ops l : List Oper} {d : Option Nat} {op : Op} {ty : Nat} {pos : String} {after : Array Edge} (h : d.getD 0 < F.K.nt) :
    goOps F ops (⟨d, op, ty, pos, after, none⟩ :: l) ks st = stepK F ops l ks d (denOp F.L F.K F.Γ st (d.getD 0) ty op) := by
  simp only [goOps, denOps, denOper, if_pos h, runs, stepK]
  cases denOp F.L F.K F.Γ st (d.getD 0) ty op <;> rfl

theorem goOps_guard {ops l : List Oper} {d : Option Nat} {op : Op} {ty : Nat} {pos : String} {after : Array Edge} {g : Nat × Bool} (h : d.getD 0 < F.K.nt) :
    goOps F ops (⟨d, op, ty, pos, after, some g⟩ :: l) ks st = guardK F ops l ks ⟨d, op, ty, pos, after, some g⟩ st (runs ops st ⟨d, op, ty, pos, after, some g⟩) := by
  simp only [goOps, denOps, denOper, if_pos h, guardK, stepK]
  cases hr : runs ops st ⟨d, op, ty, pos, after, some g⟩ with
  | none => rfl
  | some x =>
    cases x with
    | false => rfl
    | true => simp only []; cases denOp F.L F.K F.Γ st (d.getD 0) ty op <;> rfl

theorem stepK_some {ops l : List Oper} {d : Option Nat} {v : AV} {s : St} : stepK F ops l ks d (some (v, s)) = goOps F ops l ks (putD s d v) := rfl
theorem stepK_none {ops l : List Oper} {d : Option Nat} : stepK F ops l ks d none = none := rfl
theorem stepK_ite {ops l : List Oper} {d : Option Nat} {c : Prop} [Decidable c] {x y : Option (AV × St)} : stepK F ops l ks d (if c then x else y) = if c then stepK F ops l ks d x else stepK F ops l ks d y := by
  split <;> rfl
theorem guardK_true {ops l : List Oper} {o : Oper} : guardK F ops l ks o st (some true) = stepK F ops l ks o.dst (denOp F.L F.K F.Γ st (o.dst.getD 0) o.type o.op) := rfl
theorem guardK_false {ops l : List Oper} {o : Oper} : guardK F ops l ks o st (some false) = goOps F ops l ks (putD st o.dst (.tup [])) := rfl
theorem guardK_bool {ops l : List Oper} {o : Oper} {b : Bool} : guardK F ops l ks o st (some b) = if b then stepK F ops l ks o.dst (denOp F.L F.K F.Γ st (o.dst.getD 0) o.type o.op) else goOps F ops l ks (putD st o.dst (.tup [])) := by cases b <;> rfl
theorem condK_bool {a b : Code} {x : Bool} : condK F a b ks st (.bool x) = if x then go F a ks st else go F b ks st := rfl

/-! congruences: the code is not looked into -/
theorem go_congr {c : Code} {st' : St} (h : st = st') : go F c ks st = go F c ks st' := h ▸ rfl
theorem goOps_congr {ops l : List Oper} {st' : St} (h : st = st') : goOps F ops l ks st = goOps F ops l ks st' := h ▸ rfl
theorem stepK_congr {ops l : List Oper} {d : Option Nat} {r r' : Option (AV × St)} (h : r = r') : stepK F ops l ks d r = stepK F ops l ks d r' := h ▸ rfl
theorem ret_congr {e : Ex} {st' : St} (h : st = st') : ret F ks e st = ret F ks e st' := h ▸ rfl
theorem loopK_congr {a : Code} {st' : St} (h : st = st') : loopK F a ks st = loopK F a ks st' := h ▸ rfl
theorem condK_congr {a b : Code} {v v' : AV} (h : v = v') : condK F a b ks st v = condK F a b ks st v' := h ▸ rfl
theorem guardK_congr {ops l : List Oper} {o : Oper} {v v' : Option Bool} (h : v = v') : guardK F ops l ks o st v = guardK F ops l ks o st v' := h ▸ rfl

end

/-- A call of a function of the table, worked off from its head on. -/
theorem call_go {L : Nat → Option TI} {T : Nat → Option Entry} {f : Nat} {a : AFn} (h : T f = some (.code a)) {tag : Nat} {args : List AV} {lent : List (Option (List AV))} (h1 : args.length = a.np) (h2 : lent.length = a.np) :
    callω L T f tag args lent = go ⟨L, a.ann, callω L T, a.np, a.frz, a.results, lent⟩ a.body [] { env := argEnv 0 args, heap := lentHeap tag 0 lent, next := 1, tag } := by
  rw [callω_code h, runFn, if_pos ⟨h1, h2⟩]
  simp only [go]
  cases den loopω L a.ann (callω L T) a.body { env := argEnv 0 args, heap := lentHeap tag 0 lent, next := 1, tag } with
  | none => rfl
  | some p =>
    obtain ⟨e, s⟩ := p
    cases e <;> rfl


/-! ## arithmetic under names -/

def bAnd (k : IntKind) (x y : Int) : Int := k.wrap (BitVec.ofInt k.bits x &&& BitVec.ofInt k.bits y).toNat
def bOr (k : IntKind) (x y : Int) : Int := k.wrap (BitVec.ofInt k.bits x ||| BitVec.ofInt k.bits y).toNat
def bXor (k : IntKind) (x y : Int) : Int := k.wrap (BitVec.ofInt k.bits x ^^^ BitVec.ofInt k.bits y).toNat
def bAndNot (k : IntKind) (x y : Int) : Int := k.wrap (BitVec.ofInt k.bits x &&& ~~~ BitVec.ofInt k.bits y).toNat
def bShl (k : IntKind) (x y : Int) : Int := k.wrap (x * 2 ^ min y.toNat k.bits)
def bShr (k : IntKind) (x y : Int) : Int := x.fdiv (2 ^ min y.toNat k.bits)

section
variable {k : IntKind} {x y : Int}
theorem aInt_add : aInt .add k x y = some (.int k (k.wrap (x + y))) := rfl
theorem aInt_sub : aInt .sub k x y = some (.int k (k.wrap (x - y))) := rfl
theorem aInt_mul : aInt .mul k x y = some (.int k (k.wrap (x * y))) := rfl
theorem aInt_quo : aInt .quo k x y = if y = 0 then none else some (.int k (k.wrap (x.tdiv y))) := rfl
theorem aInt_rem : aInt .rem k x y = if y = 0 then none else some (.int k (x.tmod y)) := rfl
theorem aInt_and : aInt .and k x y = some (.int k (bAnd k x y)) := rfl
theorem aInt_or : aInt .or k x y = some (.int k (bOr k x y)) := rfl
theorem aInt_xor : aInt .xor k x y = some (.int k (bXor k x y)) := rfl
theorem aInt_andNot : aInt .andNot k x y = some (.int k (bAndNot k x y)) := rfl
theorem aInt_eql : aInt .eql k x y = some (.bool (x == y)) := rfl
theorem aInt_neq : aInt .neq k x y = some (.bool (x != y)) := rfl
theorem aInt_lss : aInt .lss k x y = some (.bool (decide (x < y))) := rfl
theorem aInt_leq : aInt .leq k x y = some (.bool (decide (x ≤ y))) := rfl
theorem aInt_gtr : aInt .gtr k x y = some (.bool (decide (x > y))) := rfl
theorem aInt_geq : aInt .geq k x y = some (.bool (decide (x ≥ y))) := rfl
theorem aShift_shl : aShift .shl k x y = if y < 0 then none else some (.int k (bShl k x y)) := rfl
theorem aShift_shr : aShift .shr k x y = if y < 0 then none else some (.int k (bShr k x y)) := rfl
end

/-- A constant string that is a table. -/
def tabB (s : ByteArray) (g : Nat → Nat) : Nat → Bool
  | 0 => true
  | n + 1 => (match s[n]? with | some x => x.toNat == g n | none => false) && tabB s g n

theorem tabB_get {s : ByteArray} {g : Nat → Nat} : ∀ {n i : Nat}, tabB s g n = true → i < n → ∃ x, s[i]? = some x ∧ x.toNat = g i
  | n + 1, i, h, hi => by
    simp only [tabB, Bool.and_eq_true] at h
    rcases Nat.lt_or_ge i n with h1 | h1
    · exact tabB_get h.2 h1
    · have : i = n := by omega
      subst this
      cases hs : s[i]? with
      | none => rw [hs] at h; cases h.1
      | some x => rw [hs] at h; exact ⟨x, rfl, by simpa using h.1⟩

theorem map_tab {α : Type} (f : Int → α) (g : Nat → Nat) {s : ByteArray} (n : Nat) {i : Nat} (hi : i < n) (h : tabB s g n = true) : Option.map (fun x : UInt8 => f (x.toNat : Int)) s[i]? = some (f (g i : Int)) := by
  obtain ⟨x, h1, h2⟩ := tabB_get h hi
  rw [h1, ← h2]; rfl

/-- Of all numbers below a bound, decided. -/
def allB (p : Nat → Bool) : Nat → Bool
  | 0 => true
  | n + 1 => p n && allB p n

theorem allB_get {p : Nat → Bool} : ∀ {n i : Nat}, allB p n = true → i < n → p i = true
  | n + 1, i, h, hi => by
    simp only [allB, Bool.and_eq_true] at h
    rcases Nat.lt_or_ge i n with h1 | h1
    · exact allB_get h.2 h1
    · have : i = n := by omega
      subst this; exact h.1

theorem u8_wf {x : Int} (h : (Lit.int .u8 x).wf = true) : ∃ n : Nat, x = n ∧ n < 256 := by
  simp [Lit.wf, IntKind.min, IntKind.max, IntKind.signed, IntKind.bits] at h
  exact ⟨x.toNat, by omega, by omega⟩

theorem i64_wf {x : Int} (h : (Lit.int .i64 x).wf = true) : -9223372036854775808 ≤ x ∧ x ≤ 9223372036854775807 := by
  simp [Lit.wf, IntKind.min, IntKind.max, IntKind.signed, IntKind.bits] at h
  omega


theorem wrap_u8 (x : Int) : IntKind.u8.wrap x = x % 256 := by
  simp [IntKind.wrap, IntKind.signed, IntKind.bits, IntKind.min, IntKind.max]
theorem wrap_u8_range (x : Int) : 0 ≤ IntKind.u8.wrap x ∧ IntKind.u8.wrap x < 256 := by rw [wrap_u8]; omega
theorem bAnd_u8 (x y : Int) : 0 ≤ bAnd .u8 x y ∧ bAnd .u8 x y < 256 := wrap_u8_range _
theorem bOr_u8 (x y : Int) : 0 ≤ bOr .u8 x y ∧ bOr .u8 x y < 256 := wrap_u8_range _
theorem bXor_u8 (x y : Int) : 0 ≤ bXor .u8 x y ∧ bXor .u8 x y < 256 := wrap_u8_range _
theorem bAndNot_u8 (x y : Int) : 0 ≤ bAndNot .u8 x y ∧ bAndNot .u8 x y < 256 := wrap_u8_range _
theorem bShl_u8 (x y : Int) : 0 ≤ bShl .u8 x y ∧ bShl .u8 x y < 256 := wrap_u8_range _
theorem wrap_i64 {x : Int} (h : -9223372036854775808 ≤ x) (h' : x ≤ 9223372036854775807) : IntKind.i64.wrap x = x := by
  simp only [IntKind.wrap, IntKind.signed, IntKind.bits, IntKind.min, IntKind.max]
  simp
  omega

theorem bXor_nat {a b : Nat} (ha : a < 256) (hb : b < 256) : bXor .u8 a b = ((Nat.xor a b : Nat) : Int) := by
  have h : Nat.xor a b < 2 ^ 8 := Nat.xor_lt_two_pow ha hb
  show IntKind.u8.wrap (((BitVec.ofInt 8 (a : Int) ^^^ BitVec.ofInt 8 (b : Int)).toNat : Nat) : Int) = _
  rw [BitVec.toNat_xor, BitVec.toNat_ofInt, BitVec.toNat_ofInt, wrap_u8]
  have h1 : ((a : Int) % ((2 ^ 8 : Nat) : Int)).toNat = a := by omega
  have h2 : ((b : Int) % ((2 ^ 8 : Nat) : Int)).toNat = b := by omega
  rw [h1, h2]
  show ((Nat.xor a b : Nat) : Int) % 256 = _
  omega
theorem bAnd_nat {a b : Nat} (ha : a < 256) (hb : b < 256) : bAnd .u8 a b = ((Nat.land a b : Nat) : Int) := by
  have h : Nat.land a b ≤ a := Nat.and_le_left
  show IntKind.u8.wrap (((BitVec.ofInt 8 (a : Int) &&& BitVec.ofInt 8 (b : Int)).toNat : Nat) : Int) = _
  rw [BitVec.toNat_and, BitVec.toNat_ofInt, BitVec.toNat_ofInt, wrap_u8]
  have h1 : ((a : Int) % ((2 ^ 8 : Nat) : Int)).toNat = a := by omega
  have h2 : ((b : Int) % ((2 ^ 8 : Nat) : Int)).toNat = b := by omega
  rw [h1, h2]
  show ((Nat.land a b : Nat) : Int) % 256 = _
  omega
theorem bOr_nat {a b : Nat} (ha : a < 256) (hb : b < 256) : bOr .u8 a b = ((Nat.lor a b : Nat) : Int) := by
  have h : Nat.lor a b < 2 ^ 8 := Nat.or_lt_two_pow ha hb
  show IntKind.u8.wrap (((BitVec.ofInt 8 (a : Int) ||| BitVec.ofInt 8 (b : Int)).toNat : Nat) : Int) = _
  rw [BitVec.toNat_or, BitVec.toNat_ofInt, BitVec.toNat_ofInt, wrap_u8]
  have h1 : ((a : Int) % ((2 ^ 8 : Nat) : Int)).toNat = a := by omega
  have h2 : ((b : Int) % ((2 ^ 8 : Nat) : Int)).toNat = b := by omega
  rw [h1, h2]
  show ((Nat.lor a b : Nat) : Int) % 256 = _
  omega


/-! ## arguments, one by one -/

section
variable {L : Nat → Option TI} {n t : Nat} {ts : List Nat} {cs : List AV}

theorem shpAll_nil (h : ShpAll L n [] cs) : cs = [] := h

theorem shpAll_int {k : IntKind} {sz bt : Nat} {z : List AV} (hl : L t = some ⟨.int k, sz, bt, z⟩) (h : ShpAll L (n + 1) (t :: ts) cs) : ∃ x r, cs = .int k x :: r ∧ (Lit.int k x).wf = true ∧ ShpAll L (n + 1) ts r := by
  obtain ⟨v, r, rfl, hv, hr⟩ := h
  simp only [ShpV, hl, TI.isAgg, Bool.false_eq_true, if_false, Shp] at hv
  obtain ⟨x, hx, hw⟩ := hv
  simp only [List.cons.injEq, and_true] at hx
  subst hx
  exact ⟨x, r, rfl, hw, hr⟩

theorem shpAll_bool {sz bt : Nat} {z : List AV} (hl : L t = some ⟨.bool, sz, bt, z⟩) (h : ShpAll L (n + 1) (t :: ts) cs) : ∃ x r, cs = .bool x :: r ∧ ShpAll L (n + 1) ts r := by
  obtain ⟨v, r, rfl, hv, hr⟩ := h
  simp only [ShpV, hl, TI.isAgg, Bool.false_eq_true, if_false, Shp] at hv
  obtain ⟨x, hx⟩ := hv
  simp only [List.cons.injEq, and_true] at hx
  subst hx
  exact ⟨x, r, rfl, hr⟩

theorem shpAll_str {sz bt : Nat} {z : List AV} (hl : L t = some ⟨.str, sz, bt, z⟩) (h : ShpAll L (n + 1) (t :: ts) cs) : ∃ x r, cs = .str x :: r ∧ x.size ≤ maxLen ∧ ShpAll L (n + 1) ts r := by
  obtain ⟨v, r, rfl, hv, hr⟩ := h
  simp only [ShpV, hl, TI.isAgg, Bool.false_eq_true, if_false, Shp] at hv
  obtain ⟨x, hx, hw⟩ := hv
  simp only [List.cons.injEq, and_true] at hx
  subst hx
  exact ⟨x, r, rfl, hw, hr⟩

theorem shpAll_slice {e sz bt : Nat} {z : List AV} {ie : TI} (hl : L t = some ⟨.slice e, sz, bt, z⟩) (he : L e = some ie) (h : ShpAll L (n + 1) (t :: ts) cs) :
    ∃ (parts : List (List AV)) (r : List AV), cs = .isl ie.size parts.length parts.flatten :: r ∧ parts.length ≤ maxLen ∧ (∀ p ∈ parts, Shp L n e p) ∧ ShpAll L (n + 1) ts r := by
  obtain ⟨v, r, rfl, hv, hr⟩ := h
  simp only [ShpV, hl, he, TI.isAgg, Bool.false_eq_true, if_false, Shp] at hv
  obtain ⟨x, hx, hw⟩ := hv
  simp only [List.cons.injEq, and_true] at hx
  subst hx
  exact ⟨x, r, rfl, hw.1, hw.2, hr⟩

theorem shpAll_arr {m e sz bt : Nat} {z : List AV} (hl : L t = some ⟨.arr m e, sz, bt, z⟩) (h : ShpAll L (n + 1) (t :: ts) cs) :
    ∃ (parts : List (List AV)) (r : List AV), cs = .agg parts.flatten :: r ∧ parts.length = m ∧ (∀ p ∈ parts, Shp L n e p) ∧ ShpAll L (n + 1) ts r := by
  obtain ⟨v, r, rfl, hv, hr⟩ := h
  simp only [ShpV, hl, TI.isAgg, if_true, Shp] at hv
  obtain ⟨x, hx, parts, hp, hw⟩ := hv
  subst hx hp
  exact ⟨parts, r, rfl, hw.1, hw.2, hr⟩

theorem shpAll_strct {fs : List (Nat × Nat)} {sz bt : Nat} {z : List AV} (hl : L t = some ⟨.strct fs, sz, bt, z⟩) (h : ShpAll L (n + 1) (t :: ts) cs) :
    ∃ (c : List AV) (r : List AV), cs = .agg c :: r ∧ zipShp (Shp L n) fs c ∧ ShpAll L (n + 1) ts r := by
  obtain ⟨v, r, rfl, hv, hr⟩ := h
  simp only [ShpV, hl, TI.isAgg, if_true, Shp] at hv
  obtain ⟨x, hx, hw⟩ := hv
  subst hx
  exact ⟨x, r, rfl, hw, hr⟩

/-- A slice of integers: its parts are numbers. -/
theorem ints_of_parts {e : Nat} {k : IntKind} {sz bt : Nat} {z : List AV} (hl : L e = some ⟨.int k, sz, bt, z⟩) : ∀ (parts : List (List AV)), (∀ p ∈ parts, Shp L (n + 1) e p) →
    ∃ xs : List Int, parts.flatten = xs.map (.int k) ∧ xs.length = parts.length ∧ ∀ x ∈ xs, (Lit.int k x).wf = true
  | [], _ => ⟨[], rfl, rfl, by simp⟩
  | p :: ps, h => by
    obtain ⟨xs, h1, h2, h3⟩ := ints_of_parts hl ps fun q hq => h q (by simp [hq])
    have hp := h p (by simp)
    simp only [Shp, hl] at hp
    obtain ⟨x, rfl, hw⟩ := hp
    exact ⟨x :: xs, by simp [h1], by simp [h2], by simpa using ⟨hw, h3⟩⟩

theorem bools_of_parts {e : Nat} {sz bt : Nat} {z : List AV} (hl : L e = some ⟨.bool, sz, bt, z⟩) : ∀ (parts : List (List AV)), (∀ p ∈ parts, Shp L (n + 1) e p) →
    ∃ xs : List Bool, parts.flatten = xs.map .bool ∧ xs.length = parts.length
  | [], _ => ⟨[], rfl, rfl⟩
  | p :: ps, h => by
    obtain ⟨xs, h1, h2⟩ := bools_of_parts hl ps fun q hq => h q (by simp [hq])
    have hp := h p (by simp)
    simp only [Shp, hl] at hp
    obtain ⟨x, rfl⟩ := hp
    exact ⟨x :: xs, by simp [h1], by simp [h2]⟩
end

theorem wrap_u64 {x : Int} (h : 0 ≤ x) (h' : x ≤ 18446744073709551615) : IntKind.u64.wrap x = x := by
  simp only [IntKind.wrap, IntKind.signed, IntKind.bits, IntKind.min, IntKind.max]
  simp
  omega
theorem bAnd_i64_le (x : Int) {m : Nat} (h : m < 9223372036854775808) : ∃ j : Nat, bAnd .i64 x m = j ∧ j ≤ m := by
  refine ⟨(BitVec.ofInt 64 x &&& BitVec.ofInt 64 (m : Int)).toNat, ?_, ?_⟩
  all_goals
    have h1 : (BitVec.ofInt 64 x &&& BitVec.ofInt 64 (m : Int)).toNat ≤ m := by
      rw [BitVec.toNat_and]
      refine Nat.le_trans Nat.and_le_right ?_
      rw [BitVec.toNat_ofInt]
      omega
  · show IntKind.i64.wrap (((BitVec.ofInt 64 x &&& BitVec.ofInt 64 (m : Int)).toNat : Nat) : Int) = _
    exact wrap_i64 (by omega) (by omega)
  · exact h1

section
variable {L : Nat → Option TI} {t : Nat} {op : BinOp} {c : Bool} {y : AV}
@[simp] theorem aBinN_int {k : IntKind} {n : Int} : aBinN L t op c (.int k n) y = aBin L t op (.int k n) y := by cases y <;> rfl
@[simp] theorem aBinN_bool {b : Bool} : aBinN L t op c (.bool b) y = aBin L t op (.bool b) y := by cases y <;> rfl
@[simp] theorem aBinN_str {b : ByteArray} : aBinN L t op c (.str b) y = aBin L t op (.str b) y := by cases y <;> rfl
@[simp] theorem aBinN_agg {b : List AV} : aBinN L t op c (.agg b) y = aBin L t op (.agg b) y := by cases y <;> rfl
@[simp] theorem aBinN_nn : aBinN L t op c .nilp .nilp = nilOp L t op false true := rfl
@[simp] theorem aBinN_rn {k : Nat} {g : Nat × Nat} {o : Nat} : aBinN L t op c (.ref k g o) .nilp = nilOp L t op false false := rfl
@[simp] theorem aBinN_nr {k : Nat} {g : Nat × Nat} {o : Nat} : aBinN L t op c .nilp (.ref k g o) = nilOp L t op false false := rfl
@[simp] theorem aBinN_in {b : List AV} : aBinN L t op c (.ipt b) .nilp = nilOp L t op false false := rfl
@[simp] theorem aBinN_ni {b : List AV} : aBinN L t op c .nilp (.ipt b) = nilOp L t op false false := rfl
end

end Go.Sim
