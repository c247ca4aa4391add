/- An interpreter of the model's code on values that hold their memory in themselves: its definitions. Nothing is claimed here. -/
import Derived.WalkKit
import Derived.Laws.BytesArg
import Derived.Laws.MakeOwn
namespace Go.Sim

/-- A value as the interpreter has it. 'ref': an address in a block of this activation's own; 'msl': a slice of such a block; 'isl': a slice that is only read; 'ipt': an address that is only read; 'fsl': a slice in new memory (in a result); 'mref': a map of one's own; 'mapd': what such a map holds (no value); 'junk': anything. -/
inductive AV where
  | junk
  | bool (b : Bool)
  | int (k : IntKind) (n : Int)
  | str (s : ByteArray)
  | nilp
  | ref (site : Nat) (stamp : Nat × Nat) (off : Nat)
  | msl (site : Nat) (stamp : Nat × Nat) (sz off len : Nat)
  | isl (sz len : Nat) (cells : List AV)
  | fsl (sz len : Nat) (cells : List AV)
  | nsl
  | ipt (cells : List AV)
  | agg (cells : List AV)
  | tup (vs : List AV)
  | nilI
  | nilF
  | fn (f : Nat) (captured : List AV)
  | mref (site : Nat) (stamp : Nat × Nat)
  | nilM
  | mapd (ks vs : List AV)
  | gref (g : Nat)
  | err (g : Nat)
  deriving Inhabited

/-- What is asked of a type. -/
inductive TD where
  | bool | int (k : IntKind) | str | ptr (e : Nat) | slice (e : Nat) | arr (n e : Nat) | strct (fs : List (Nat × Nat)) | func | map (k e : Nat) | iface | opq | other
  deriving Inhabited

structure TI where
  desc : TD
  size : Nat
  bytes : Nat
  zero : List AV
  deriving Inhabited

def TI.isAgg (i : TI) : Bool := match i.desc with | .arr .. | .strct _ | .opq => true | _ => false

def TI.zeroAV (i : TI) : AV := if i.isAgg then .agg i.zero else i.zero.headD .junk

structure Blk where
  stamp : Nat × Nat
  cells : List AV
  deriving Inhabited

structure St where
  env : List (Nat × AV)
  heap : List (Nat × Blk)
  next : Nat
  tag : Nat
  deriving Inhabited

/-- What a user adds to a function's code: which slots are kept beyond a region ('cross'); what lives at a loop's head (by the loop's first region: slots, sites); in which slots a nil slice, or a call's new slice, becomes a block of one's own; which blocks of one's own an operation reads at most (by its slot); into which one is stored (by the address's slot); which calls leave what is lent as it is ('ro'); which take the memory with them ('hp'). -/
structure Ann where
  nt : Nat
  cross : List Nat
  heads : List (Nat × List Nat × List Nat)
  own : List Nat
  reads : List (Nat × List Nat)
  stores : List (Nat × Nat)
  ro : List Nat
  hp : List Nat

inductive Ex where
  | normal | exit (id : Nat) | ret

def aget {α : Type} (k : Nat) : List (Nat × α) → Option α
  | [] => none
  | (j, v) :: l => if j = k then some v else aget k l

def Ann.storeAt (K : Ann) : Operand → Option Nat
  | .tmp t => aget t K.stores
  | _ => none

def aput {α : Type} (k : Nat) (v : α) : List (Nat × α) → List (Nat × α)
  | [] => [(k, v)]
  | (j, u) :: l => if j = k then (k, v) :: l else (j, u) :: aput k v l

def adel {α : Type} (k : Nat) : List (Nat × α) → List (Nat × α)
  | [] => []
  | (j, u) :: l => if j = k then adel k l else (j, u) :: adel k l

/-! ## values -/

def ofScalar : Value → AV
  | .bool b => .bool b
  | .int k n => .int k n
  | .string s => .str s
  | .pointer none => .nilp
  | .slice none 0 0 => .nsl
  | .nilIface => .nilI
  | .nilFunc => .nilF
  | .map none => .nilM
  | _ => .junk

def ofCells : List Value → Option (List AV)
  | [] => some []
  | v :: l => match ofScalar v with
    | .junk => none
    | x => (ofCells l).map (x :: ·)

def ofConst : Value → AV
  | .agg cs => match ofCells cs.toList with
    | some l => .agg l
    | none => .junk
  | .tuple vs => .tup (vs.toList.map ofScalar)
  | v => ofScalar v

def AV.cells : AV → List AV
  | .agg cs => cs
  | .fsl z n cs => [.isl z n cs]
  | v => [v]

def operand (st : St) : Operand → AV
  | .tmp t => (aget t st.env).getD .junk
  | .const v => ofConst v
  | .func f => .fn f []
  | .global g => .gref g

/-- Reading a variable of a type out of cells. -/
def rdCells (i : TI) (cells : List AV) (o : Nat) : Option AV :=
  if i.isAgg then (if o + i.size ≤ cells.length then some (.agg ((cells.drop o).take i.size)) else none) else cells[o]?

/-- Cells over cells. -/
def setR (cells : List AV) (o : Nat) (vs : List AV) : List AV := cells.take o ++ vs ++ cells.drop (o + vs.length)

def AV.isRef : AV → Bool
  | .ref _ _ _ => true
  | _ => false

/-- A value that fills one cell, or a struct's or an array's cells. -/
def AV.solid : AV → Bool
  | .junk | .tup _ | .mapd _ _ => false
  | _ => true

/-- Whose a key is: a slot's. -/
def owner : Nat → Nat → Nat
  | 0, k => k
  | n + 1, k => if Nat.ble 1000000 k then owner n (k / 1000000 - 1) else k
def grp (k : Nat) : Nat := owner 20 k % 500000

/-- Does a key lie at a place, or below it? -/
def below : Nat → Nat → Nat → Bool
  | 0, _, _ => false
  | n + 1, x, k => match Nat.beq k x with
    | true => true
    | false => match Nat.ble 1000000 k with
      | true => below n x (k / 1000000 - 1)
      | false => false
/-- Is a key one of those that a number of a footprint stands for? 3 s: all that the slot s owns; 3 k + 1: the key k alone; 3 k + 2: k and all below it. -/
def hits (k a : Nat) : Bool := match Nat.beq (a % 3) 0, Nat.beq (a % 3) 1 with
  | true, _ => Nat.beq (grp k) (a / 3)
  | false, true => Nat.beq k (a / 3)
  | false, false => Nat.beq (grp k) (grp (a / 3)) && below 20 (a / 3) k

/-- Is a key one of those? -/
def okKey (rd : Option (List Nat)) (k : Nat) : Bool := match rd with
  | none => true
  | some l => l.any (hits k)

/-- Does a value lead to none of one's own blocks but those? -/
def okRead : Option (List Nat) → AV → Bool
  | some l, .ref s _ _ => l.any (hits s)
  | some l, .msl s _ _ _ _ => l.any (hits s)
  | _, _ => true

def okStore : Option Nat → AV → Bool
  | some s, .ref s' _ _ => s == s'
  | some _, _ => false
  | none, _ => true

/-- No slice in new memory, no tuple: a value that may be handed to a callee. -/
def AV.top : AV → Bool
  | .fsl _ _ _ | .tup _ | .mapd _ _ => false
  | _ => true

/-- A plain value: no memory in it. -/
def AV.plain : AV → Bool
  | .bool _ | .int .. | .str _ | .nilp | .nsl | .nilI | .nilF | .nilM => true
  | _ => false

/-! ## arithmetic -/

def aShift (op : BinOp) (k : IntKind) (x y : Int) : Option AV :=
  if y < 0 then none else
  match op with
  | .shl => some (.int k (k.wrap (x * 2 ^ min y.toNat k.bits)))
  | .shr => some (.int k (x.fdiv (2 ^ min y.toNat k.bits)))
  | _ => none

def aInt (op : BinOp) (k : IntKind) (x y : Int) : Option AV :=
  match op with
  | .add => some (.int k (k.wrap (x + y)))
  | .sub => some (.int k (k.wrap (x - y)))
  | .mul => some (.int k (k.wrap (x * y)))
  | .quo => if y = 0 then none else some (.int k (k.wrap (x.tdiv y)))
  | .rem => if y = 0 then none else some (.int k (x.tmod y))
  | .and => some (.int k (k.wrap (BitVec.ofInt k.bits x &&& BitVec.ofInt k.bits y).toNat))
  | .or => some (.int k (k.wrap (BitVec.ofInt k.bits x ||| BitVec.ofInt k.bits y).toNat))
  | .xor => some (.int k (k.wrap (BitVec.ofInt k.bits x ^^^ BitVec.ofInt k.bits y).toNat))
  | .andNot => some (.int k (k.wrap (BitVec.ofInt k.bits x &&& ~~~ BitVec.ofInt k.bits y).toNat))
  | .eql => some (.bool (x == y))
  | .neq => some (.bool (x != y))
  | .lss => some (.bool (x < y))
  | .leq => some (.bool (x ≤ y))
  | .gtr => some (.bool (x > y))
  | .geq => some (.bool (x ≥ y))
  | _ => none

/-- Equality of parts, field by field, element by element. -/
def eqFs (L : Nat → Option TI) (f : Nat → AV → AV → Option Bool) (xs ys : List AV) : List (Nat × Nat) → Option Bool
  | [] => some true
  | (o, ty) :: fs => match L ty with
    | none => none
    | some j => match rdCells j xs o, rdCells j ys o with
      | some a, some b => match f ty a b with
        | some true => eqFs L f xs ys fs
        | r => r
      | _, _ => none
def eqEs (j : TI) (f : AV → AV → Option Bool) (xs ys : List AV) : List Nat → Option Bool
  | [] => some true
  | k :: ks => match rdCells j xs (k * j.size), rdCells j ys (k * j.size) with
    | some a, some b => match f a b with
      | some true => eqEs j f xs ys ks
      | r => r
    | _, _ => none
/-- Equality at a type. -/
def eqT (L : Nat → Option TI) : Nat → Nat → AV → AV → Option Bool
  | 0, _, _, _ => none
  | d + 1, t, x, y => match L t with
    | none => none
    | some i => match i.desc, x, y with
      | .bool, .bool a, .bool b => some (a == b)
      | .int _, .int k a, .int k' b => if k = k' then some (a == b) else none
      | .str, .str a, .str b => some (a.toList == b.toList)
      | .strct fs, .agg xs, .agg ys => eqFs L (eqT L d) xs ys fs
      | .arr n e, .agg xs, .agg ys => match L e with
        | some j => eqEs j (eqT L d e) xs ys (List.range n)
        | none => none
      | _, _, _ => none

def aBin (L : Nat → Option TI) (t : Nat) (op : BinOp) (x y : AV) : Option AV :=
  match x, y with
  | .int k a, .int k' b =>
    match op with
    | .shl | .shr => aShift op k a b
    | _ => if k = k' then aInt op k a b else none
  | .bool a, .bool b =>
    match L t with
    | some ⟨.bool, _, _, _⟩ =>
      match op with
      | .eql => some (.bool (a == b))
      | .neq => some (.bool (!(a == b)))
      | _ => none
    | _ => none
  | .str a, .str b =>
    match op with
    | .eql => some (.bool (a.toList == b.toList))
    | .neq => some (.bool (!(a.toList == b.toList)))
    | _ => none
  | .agg xs, .agg ys =>
    match op with
    | .eql => (eqT L 20 t (.agg xs) (.agg ys)).map .bool
    | .neq => (eqT L 20 t (.agg xs) (.agg ys)).map fun b => .bool (!b)
    | _ => none
  | _, _ => none

/-- A comparison with nil: of an interface?, are they the same? (of two nil interfaces one has to be the literal) -/
def nilCmp (c : Bool) : AV → AV → Option (Bool × Bool)
  | .nilp, .nilp => some (false, true)
  | .ref _ _ _, .nilp | .ipt _, .nilp | .nilp, .ref _ _ _ | .nilp, .ipt _ => some (false, false)
  | .nilI, .nilI => if c then some (true, true) else none
  | .err _, .nilI | .nilI, .err _ => some (true, false)
  | .err g, .err g' => some (true, decide (g = g'))
  | _, _ => none

def nilOp (L : Nat → Option TI) (t : Nat) (op : BinOp) (i b : Bool) : Option AV :=
  match L t with
  | some j => match j.desc, i, op with
    | .ptr _, false, .eql | .iface, true, .eql => some (.bool b)
    | .ptr _, false, .neq | .iface, true, .neq => some (.bool (!b))
    | _, _, _ => none
  | none => none

def aBinN (L : Nat → Option TI) (t : Nat) (op : BinOp) (c : Bool) (x y : AV) : Option AV :=
  match nilCmp c x y with
  | some (i, b) => nilOp L t op i b
  | none => aBin L t op x y

def isConstO : Operand → Bool
  | .const _ => true
  | _ => false

def aUn (op : UnOp) (x : AV) : Option AV :=
  match op, x with
  | .neg, .int k n => aInt .sub k 0 n
  | .xor, .int k n => aInt .xor k (if k.signed then -1 else k.max) n
  | .not, .bool b => some (.bool (!b))
  | _, _ => none

/-- Is an error a pointer to a struct of more than one cell? A package variable's isn't. -/
def aAsT (L : Nat → Option TI) (t : Nat) (ok : Bool) : Option AV := match ok, L t with
  | true, some i => match i.desc with
    | .ptr e => match L e with
      | some j => if Nat.beq j.size 1 then none else some (.tup [i.zeroAV, .bool false])
      | none => none
    | _ => none
  | _, _ => none
def aAs (L : Nat → Option TI) (t : Nat) (ok : Bool) : AV → Option AV
  | .err _ | .nilI => aAsT L t ok
  | _ => none

/-- The numbers of a row of bytes. -/
def u8s : List AV → Option (List Int)
  | [] => some []
  | .int .u8 n :: l => (u8s l).map (n :: ·)
  | _ => none

def AV.isStr : AV → Bool
  | .str _ => true
  | _ => false

/-! ## memory -/

/-- A map's place among the blocks: its last six digits are 500000 and above. -/
def isMapKey (k : Nat) : Bool := Nat.ble 500000 (k % 1000000)

/-- The block of an address, if it is still the one that the address was made for. -/
def blkOf (st : St) (site : Nat) (stamp : Nat × Nat) : Option (List AV) :=
  if isMapKey site then none else
  match aget site st.heap with
  | some b => if b.stamp = stamp then some b.cells else none
  | none => none

/-- What a map of one's own holds. -/
def mapOf (st : St) (site : Nat) (stamp : Nat × Nat) : Option (List AV × List AV) :=
  if isMapKey site then
    match aget site st.heap with
    | some b => if b.stamp = stamp then (match b.cells with | [.mapd ks vs] => some (ks, vs) | _ => none) else none
    | none => none
  else none

/-- A new block. -/
def newBlk (st : St) (site : Nat) (cells : List AV) : (Nat × Nat) × St :=
  ((st.tag, st.next), { st with heap := aput site ⟨(st.tag, st.next), cells⟩ st.heap, next := st.next + 1 })

def putCells (st : St) (site : Nat) (cells : List AV) : St :=
  match aget site st.heap with
  | some b => { st with heap := aput site { b with cells } st.heap }
  | none => st

def aLoad (i : TI) (st : St) : AV → Option AV
  | .ref s g o => (blkOf st s g).bind fun cells => rdCells i cells o
  | .ipt cells => rdCells i cells 0
  | _ => none

/-- An error's interface: one cell. -/
def TI.isErr (i : TI) : Bool := match i.desc with | .iface => i.size == 1 | _ => false

/-- A load; of a package variable that holds an error too (the annotations name them, among 'reads', from 1000000000 on). -/
def gLoad (rd : List (Nat × List Nat)) (i : TI) (st : St) : AV → Option AV
  | .gref g => if (aget (1000000000 + g) rd).isSome && i.isErr then some (.err g) else none
  | v => aLoad i st v

def aStore (i : TI) (st : St) (addr v : AV) : Option St :=
  match addr with
  | .ref s g o => (blkOf st s g).bind fun cells =>
    if v.solid ∧ v.cells.length = i.size ∧ o + i.size ≤ cells.length then some (putCells st s (setR cells o v.cells)) else none
  | _ => none

/-- The cells of a slice, and how many elements there are. -/
def slCells (st : St) (sz : Nat) : AV → Option (Nat × List AV)
  | .msl s g z o n => if z = sz then (blkOf st s g).bind fun cells => if o + n * sz ≤ cells.length then some (n, (cells.drop o).take (n * sz)) else none else none
  | .isl z n cells | .fsl z n cells => if z = sz ∧ cells.length = n * sz then some (n, cells) else none
  | .nsl => some (0, [])
  | _ => none

def slLen : AV → Option Nat
  | .msl _ _ _ _ n | .isl _ n _ | .fsl _ n _ => some n
  | .nsl => some 0
  | .str s => some s.size
  | _ => none

def asInt? : AV → Option Int
  | .int _ n => some n
  | _ => none

def bnd (d : Int) : Option AV → Option Int
  | some v => asInt? v
  | none => some d

/-- The part from l to h of a slice. -/
def cutA (sz l h : Nat) (av : AV) : Option AV :=
  match av with
  | .msl k g z o _ => if z = sz then some (.msl k g z (o + l * sz) (h - l)) else none
  | .isl z n cells => if z = sz ∧ cells.length = n * sz then some (.isl z (h - l) ((cells.drop (l * sz)).take ((h - l) * sz))) else none
  | .fsl z n cells => if z = sz ∧ cells.length = n * sz then some (.isl z (h - l) ((cells.drop (l * sz)).take ((h - l) * sz))) else none
  | .nsl => some .nsl
  | _ => none

/-- 'x[lo:hi]' of a slice with elements of so many cells. -/
def aSlice (sz : Nat) (x : AV) (lo hi : Option AV) : Option AV := do
  let n ← slLen x
  let h ← bnd n hi
  let l ← bnd 0 lo
  if 0 ≤ l ∧ l ≤ h ∧ h ≤ n then cutA sz l.toNat h.toNat x else none

def aStrSlice (x : AV) (lo hi : Option AV) : Option AV := do
  match x with
  | .str s =>
    let h ← bnd s.size hi
    let l ← bnd 0 lo
    if 0 ≤ l ∧ l ≤ h ∧ h ≤ s.size then some (.str (s.extract l.toNat h.toNat)) else none
  | _ => none

/-- 'append(s, x...)' at elements of so many cells: the result, the state. -/
def aAppend (sz bytes : Nat) (st : St) (d : Nat) (s x : AV) : Option (AV × St) := do
  let (n, new) ← slCells st sz x
  match s with
  | .nsl => if 0 < bytes ∧ 0 < sz ∧ n * bytes ≤ 140737488355328 then (let p := newBlk st d new; some (.msl d p.1 sz 0 n, p.2)) else none
  | .msl site g z o m =>
    let cells ← blkOf st site g
    if z = sz ∧ 0 < bytes ∧ 0 < sz ∧ o + m * sz = cells.length ∧ (m + n) * bytes ≤ 140737488355328 then
      let p := newBlk st site (cells.drop o ++ new)
      some (.msl site p.1 sz 0 (m + n), p.2)
    else none
  | _ => none

/-- Parts laid over cells. -/
def fillA (place : Nat → Option (Nat × Nat)) (cells : List AV) : List (Nat × AV) → Option (List AV)
  | [] => some cells
  | (i, v) :: rest =>
    match place i with
    | none => none
    | some (off, size) => if v.solid ∧ v.cells.length = size ∧ off + size ≤ cells.length then fillA place (setR cells off v.cells) rest else none

def repl (n : Nat) (z : List AV) : List AV := (List.replicate n z).flatten

/-! ## calls -/

/-- How a call answers: function, activation's tag, arguments, what is lent (the cells of each pointer argument): the result, what was lent as it is behind the call. -/
abbrev Oracle := Nat → Nat → List AV → List (Option (List AV)) → Option (AV × List (Option (List AV)))

/-- How many cells are lent behind an address of a type (a method's receiver bears its own type); of what was captured: all. -/
def lendSize (L : Nat → Option TI) (n : Nat) : Option Nat → Option Nat
  | none => some n
  | some t => do
    let i ← L t
    match i.desc with
    | .ptr e => do
      let ie ← L e
      some ie.size
    | .strct _ | .arr _ _ => some i.size
    | _ => none

/-- An argument as the callee has it (the j-th), what is lent with it, and where that lies. -/
def lend (L : Nat → Option TI) (st : St) (j : Nat) (v : AV) (t : Option Nat) : Option (AV × Option (List AV) × Option (Nat × Nat × Nat)) :=
  match v with
  | .ref s g o => do
    let cells ← blkOf st s g
    let n ← lendSize L (cells.length - o) t
    if o + n ≤ cells.length then some (.ref j (st.tag + 1, 0) 0, some ((cells.drop o).take n), some (s, o, n)) else none
  | .msl s g z o n => do
    let cells ← blkOf st s g
    if o + n * z ≤ cells.length then some (.isl z n ((cells.drop o).take (n * z)), none, none) else none
  | .fsl z n cells => some (.isl z n cells, none, none)
  | .tup _ => none
  | .mapd _ _ => none
  | v => some (v, none, none)

def lendAll (L : Nat → Option TI) (st : St) : Nat → List AV → List Nat → Option (List (AV × Option (List AV) × Option (Nat × Nat × Nat)))
  | _, [], _ => some []
  | j, v :: vs, ts => do
    let x ← lend L st j v ts.head?
    let xs ← lendAll L st (j + 1) vs (ts.drop 1)
    some (x :: xs)

/-- No block is lent twice, none is lent that is read besides. -/
def lentFree (s : Nat) : List (Option (Nat × Nat × Nat)) → Bool
  | [] => true
  | none :: l => lentFree s l
  | some (s', _, _) :: l => s' != s && lentFree s l

def lentApart : List (Option (Nat × Nat × Nat)) → Bool
  | [] => true
  | none :: l => lentApart l
  | some (s, _, _) :: l => lentFree s l && lentApart l

def readFree (l : List (Option (Nat × Nat × Nat))) : List AV → Bool
  | [] => true
  | .msl s _ _ _ _ :: vs => lentFree s l && readFree l vs
  | _ :: vs => readFree l vs

/-- What was lent comes back. -/
def giveBack (st : St) : List (Option (Nat × Nat × Nat)) → List (Option (List AV)) → Option St
  | [], [] => some st
  | none :: l, none :: r => giveBack st l r
  | some (s, o, n) :: l, some cells :: r =>
    match aget s st.heap with
    | some b => if cells.length = n then giveBack (putCells st s (setR b.cells o cells)) l r else none
    | none => none
  | _, _ => none

/-- A result's new slice becomes a block of one's own. -/
def adopt (own : Bool) (st : St) (d : Nat) (v : AV) : AV × St :=
  if own then
    match v with
    | .fsl z n cells => let p := newBlk st d cells; (.msl d p.1 z 0 n, p.2)
    | v => (v, st)
  else (v, st)

/-- A result's slice, as it goes out: all of a block of one's own (no block of a parameter) is handed over with it; what a callee gave is handed on. With it: the block's site (of what a callee gave: one that stands for all). -/
def freezeSl (np : Nat) (st : St) : AV → Option (Nat × Nat × List AV × Nat)
  | .msl s g z o n => do
    let cells ← blkOf st s g
    if np ≤ s ∧ s < 1000000 ∧ o = 0 ∧ 0 < z ∧ cells.length = n * z ∧ cells.all AV.plain then some (z, n, cells, s) else none
  | _ => none

/-- The same of a struct's or array's cells: at the places that are named a slice may stand, all else is plain. -/
def freezeAgg (np : Nat) (st : St) : List Nat → Nat → List AV → Option (List AV × List Nat)
  | [], _, cs => if cs.all AV.plain then some (cs, []) else none
  | p :: ps, k, cs => do
    let c ← cs[p - k]?
    match c with
    | .nsl => do
      let (r, ss) ← freezeAgg np st ps (p + 1) (cs.drop (p - k + 1))
      if (cs.take (p - k)).all AV.plain then some (cs.take (p - k) ++ .nsl :: r, ss) else none
    | c => do
      let (z, n, cells, s) ← freezeSl np st c
      let (r, ss) ← freezeAgg np st ps (p + 1) (cs.drop (p - k + 1))
      if (cs.take (p - k)).all AV.plain ∧ !ss.contains s then some (cs.take (p - k) ++ .isl z n cells :: r, s :: ss) else none

def passed : Nat := 1000000007

def freezeOne (np : Nat) (ps : List Nat) (st : St) (v : AV) : Option (AV × List Nat) :=
  match v with
  | .agg cs => (freezeAgg np st ps 0 cs).map fun p => (.agg p.1, p.2)
  | .msl s g z o n => (freezeSl np st (.msl s g z o n)).map fun p => (.fsl p.1 p.2.1 p.2.2.1, [p.2.2.2])
  | .fsl z n cells => some (.fsl z n cells, [passed])
  | v => if v.plain then some (v, []) else none

def freezeAll (np : Nat) (ps : List Nat) (st : St) : List AV → Option (List AV × List Nat)
  | [] => some ([], [])
  | v :: vs => do
    let (x, s) ← freezeOne np ps st v
    let (xs, ss) ← freezeAll np ps st vs
    if s.all (fun k => !ss.contains k) then some (x :: xs, s ++ ss) else none

/-! ## maps -/

/-- Equality of keys of a type. -/
def keyEq : TD → AV → AV → Option Bool
  | .int kd, .int k a, .int k' b => if k = kd ∧ k = k' then some (a == b) else none
  | .str, .str a, .str b => some (a == b)
  | .bool, .bool a, .bool b => some (a == b)
  | _, _, _ => none

def mfind (t : TD) (k : AV) : List AV → List AV → Option (Option AV)
  | [], [] => some none
  | k' :: ks, v :: vs => match keyEq t k k' with
    | some true => some (some v)
    | some false => mfind t k ks vs
    | none => none
  | _, _ => none

def mput (t : TD) (k v : AV) : List AV → List AV → Option (List AV × List AV)
  | [], [] => some ([k], [v])
  | k' :: ks, u :: vs => match keyEq t k k' with
    | some true => some (k :: ks, v :: vs)
    | some false => (mput t k v ks vs).map fun p => (k' :: p.1, u :: p.2)
    | none => none
  | _, _ => none

def mdel (t : TD) (k : AV) : List AV → List AV → Option (List AV × List AV)
  | [], [] => some ([], [])
  | k' :: ks, u :: vs => match keyEq t k k' with
    | some true => some (ks, vs)
    | some false => (mdel t k ks vs).map fun p => (k' :: p.1, u :: p.2)
    | none => none
  | _, _ => none

/-- A map's type: its keys' kind, its values' type. -/
def mapTy (L : Nat → Option TI) (t : Nat) : Option (TD × Nat) := do
  let i ← L t
  match i.desc with
  | .map k e => do
    let j ← L k
    some (j.desc, e)
  | _ => none


/-- What a map holds. -/
def mapArg (st : St) : AV → Option (List AV × List AV)
  | .mref s g => mapOf st s g
  | .nilM => some ([], [])
  | _ => none

/-- Looked up: the value, whether it is there. -/
def mlook (t : TD) (z : AV) (k : AV) (ks vs : List AV) : Option (AV × Bool) := match keyEq t k k with
  | some true => (mfind t k ks vs).map fun r => match r with
    | some v => (v, true)
    | none => (z, false)
  | _ => none

/-! ## an operation -/

def fieldOf (L : Nat → Option TI) (s f : Nat) : Option (Nat × TI) := do
  let i ← L s
  match i.desc with
  | .strct fs => do
    let (o, t) ← fs[f]?
    let j ← L t
    some (o, j)
  | _ => none

def slElem (L : Nat → Option TI) (t : Nat) : Option TI := do
  let i ← L t
  match i.desc with
  | .slice e => L e
  | _ => none

def parts (st : St) (ps : Array (Nat × Operand)) : List (Nat × AV) := ps.toList.map fun p => (p.1, operand st p.2)

/-- A builtin. -/
def aBuiltin (L : Nat → Option TI) (st : St) (d : Nat) (b : Builtin) (ts : List Nat) (args : List AV) : Option (AV × St) :=
  match b, ts, args with
  | .len, t :: _, [x] => do
    let i ← L t
    match i.desc with
    | .str => match x with | .str s => some (.int .i64 s.size, st) | _ => none
    | .slice _ => match x with | .str _ => none | x => (slLen x).map fun n => (.int .i64 n, st)
    | .arr n _ => some (.int .i64 n, st)
    | _ => none
  | .append, t :: t' :: _, [s, x] => do
    let e ← slElem L t
    if t' = t ∧ e.zero.length = e.size then aAppend e.size e.bytes st d s x else none
  | .copy, t :: t' :: _, [.msl s g z o m, x] => do
    let e ← slElem L t
    let _ ← slElem L t'
    let (n, new) ← slCells st e.size x
    let cells ← blkOf st s g
    if z = e.size ∧ o + m * z ≤ cells.length then
      some (.int .i64 (min n m : Nat), putCells st s (setR cells o (new.take (min n m * z))))
    else none
  | .clear, t :: _, [.msl s g z o m] => do
    let e ← slElem L t
    let cells ← blkOf st s g
    if z = e.size ∧ o + m * z ≤ cells.length ∧ e.zero.length = z ∧ 0 < z then
      some (.tup [], putCells st s (setR cells o (repl m e.zero)))
    else none
  | .delete, t :: _, [.mref s g, k] => do
    let (kt, _) ← mapTy L t
    let (ks, vs) ← mapOf st s g
    if keyEq kt k k = some true then do
      let (ks', vs') ← mdel kt k ks vs
      some (.tup [], putCells st s [.mapd ks' vs'])
    else none
  | .min, _, [.int k x, .int _ y] => some (.int k (if y < x then y else x), st)
  | .max, _, [.int k x, .int _ y] => some (.int k (if y > x then y else x), st)
  | _, _, _ => none

def sameP : AV → AV → Bool
  | .bool a, .bool b => a == b
  | .int k a, .int k' b => decide (k = k') && decide (a = b)
  | .str a, .str b => decide (a.data.toList = b.data.toList)
  | .nilp, .nilp => true
  | .nsl, .nsl => true
  | .nilI, .nilI => true
  | .nilF, .nilF => true
  | .nilM, .nilM => true
  | _, _ => false

theorem sameP_ok {a b : AV} (h : sameP a b = true) : a = b := by
  cases a <;> cases b <;> simp_all [sameP]
  rename_i x y
  obtain ⟨⟨x⟩⟩ := x
  obtain ⟨⟨y⟩⟩ := y
  simp_all

def samePs : List AV → List AV → Bool
  | [], [] => true
  | a :: as, b :: bs => sameP a b && samePs as bs
  | _, _ => false

theorem samePs_ok : ∀ {a b : List AV}, samePs a b = true → a = b
  | [], [], _ => rfl
  | a :: as, b :: bs, h => by
    simp only [samePs, Bool.and_eq_true] at h
    rw [sameP_ok h.1, samePs_ok h.2]
  | [], _ :: _, h => by cases h
  | _ :: _, [], h => by cases h

/-- Is what was lent as it was? -/
def lentSame : List (Option (List AV)) → List (Option (List AV)) → Bool
  | [], [] => true
  | none :: l, none :: r => lentSame l r
  | some a :: l, some b :: r => samePs a b && lentSame l r
  | _, _ => false

/-- A call that leaves what is lent as it is. -/
def roCall (L : Nat → Option TI) (Γ : Oracle) (st : St) (f : Nat) (args : List AV) (ts : List Nat) : Option (AV × St) := do
  let l ← lendAll L st 0 args ts
  if lentApart (l.map (·.2.2)) && readFree (l.map (·.2.2)) args then
    let (v, r) ← Γ f (st.tag + 1) (l.map (·.1)) (l.map (·.2.1))
    if lentSame (l.map (·.2.1)) r then some (v, st) else none
  else none

/-- A call of a function: the result, the state. -/
def aCall (L : Nat → Option TI) (own : Bool) (Γ : Oracle) (st : St) (d : Nat) (f : Nat) (args : List AV) (ts : List Nat) : Option (AV × St) := do
  let l ← lendAll L st 0 args ts
  if lentApart (l.map (·.2.2)) && readFree (l.map (·.2.2)) args then
    let (v, r) ← Γ f (st.tag + 1) (l.map (·.1)) (l.map (·.2.1))
    let st' ← giveBack st (l.map (·.2.2)) r
    some (adopt own st' d v)
  else none

/-! ## calls that take the memory with them -/

/-- The place at an offset of a place. -/
def nest (p i : Nat) : Nat := (p + 1) * 1000000 + i

/-- How blocks are named anew: the key, the stamp; the new key, the new stamp. -/
abbrev Pk := List (Nat × (Nat × Nat) × Nat × (Nat × Nat))

def look (k : Nat) (g : Nat × Nat) : Pk → Option (Nat × (Nat × Nat))
  | [] => none
  | (k0, g0, k1, g1) :: l => if k0 = k ∧ g0 = g then some (k1, g1) else look k g l

mutual
/-- A value under the new names; what isn't named is unknown. -/
def ren (pk : Pk) : AV → AV
  | .ref k g o => match look k g pk with
    | some (k', g') => .ref k' g' o
    | none => .junk
  | .msl k g z o n => match look k g pk with
    | some (k', g') => .msl k' g' z o n
    | none => .junk
  | .mref k g => match look k g pk with
    | some (k', g') => .mref k' g'
    | none => .junk
  | .isl z n cs => .isl z n (renL pk cs)
  | .fsl z n cs => .isl z n cs
  | .ipt cs => .ipt (renL pk cs)
  | .agg cs => .agg (renL pk cs)
  | .tup cs => .tup (renL pk cs)
  | .fn f cs => .fn f (renL pk cs)
  | .mapd ks vs => .mapd (renL pk ks) (renL pk vs)
  | .junk => .junk
  | .bool b => .bool b
  | .int k n => .int k n
  | .str s => .str s
  | .nilp => .nilp
  | .nsl => .nsl
  | .nilI => .nilI
  | .nilF => .nilF
  | .nilM => .nilM
  | .gref g => .gref g
  | .err g => .err g
def renL (pk : Pk) : List AV → List AV
  | [] => []
  | c :: cs => ren pk c :: renL pk cs
end

def refOf : AV → Option (Nat × (Nat × Nat))
  | .ref k g _ | .msl k g _ _ _ | .mref k g => some (k, g)
  | _ => none

mutual
/-- No block is led to. -/
def AV.shut : AV → Bool
  | .ref .. | .msl .. | .mref .. | .fsl .. | .tup _ => false
  | .isl _ _ cs | .ipt cs | .agg cs | .fn _ cs => shutL cs
  | .mapd ks vs => shutL ks && shutL vs
  | .junk | .bool _ | .int .. | .str _ | .nilp | .nsl | .nilI | .nilF | .nilM | .gref _ | .err _ => true
def shutL : List AV → Bool
  | [] => true
  | c :: cs => c.shut && shutL cs
end

/-- Those of a row of values that may lead to memory, with their places. -/
def places (p : Nat) : Nat → List AV → List (AV × Nat)
  | _, [] => []
  | i, v :: vs => if v.shut then places p (i + 1) vs else (v, nest p i) :: places p (i + 1) vs

def placesP (p : Nat) (cs : List AV) : List (AV × Nat) := places p 0 cs

def kids (p : Nat) : AV → List (AV × Nat)
  | .isl _ _ cs | .ipt cs | .agg cs | .tup cs | .fn _ cs => placesP p cs
  | .mapd ks vs => placesP p ks ++ places p ks.length vs
  | _ => []

/-- All blocks that can be reached, each with its name by the way to it. -/
def visit (rd : Option (List Nat)) (st : St) (g' : Nat × Nat) : Nat → List (AV × Nat) → Pk → Option Pk
  | _, [], pk => some pk
  | 0, _ :: _, _ => none
  | n + 1, (v, p) :: rest, pk =>
    match refOf v with
    | some (k, g) => if (look k g pk).isSome then visit rd st g' n rest pk else if okKey rd k then
      match aget k st.heap with
      | some b => if b.stamp = g then visit rd st g' n (rest ++ placesP p b.cells) (pk ++ [(k, g, (if isMapKey k then p + 500000 else p), g')]) else visit rd st g' n rest pk
      | none => visit rd st g' n rest pk
      else none
    | none => visit rd st g' n (rest ++ kids p v) pk

/-- Roots: values at places of their own. -/
def rootsAt (j : Nat) : List AV → List (AV × Nat)
  | [] => []
  | v :: vs => if v.shut then rootsAt (j + 1) vs else (v, j) :: rootsAt (j + 1) vs

def distinct : List Nat → Bool
  | [] => true
  | k :: l => !l.contains k && distinct l

def pkOk (pk : Pk) : Bool := distinct (pk.map (·.1)) && distinct (pk.map (·.2.2.1)) && pk.all fun x => isMapKey x.1 == isMapKey x.2.2.1

/-- The blocks under their new names. -/
def packed (st : St) (pk : Pk) : Pk → Option (List (Option (List AV)))
  | [] => some []
  | (k, g, k', _) :: l => match aget k st.heap with
    | some b => if b.stamp = g then (packed st pk l).map (some (.mref k' (0, 0) :: renL pk b.cells) :: ·) else none
    | none => none

/-- Blocks that were handed over, as memory. -/
def hHeap (tag : Nat) : List (Option (List AV)) → List (Nat × Blk)
  | some (.mref k _ :: cells) :: l => (k, ⟨(tag, 0), cells⟩) :: hHeap tag l
  | _ :: l => hHeap tag l
  | [] => []

/-- Which blocks the arguments themselves name (those that functions captured, and that stand in structs, too). -/
def rootKeys : List AV → List Nat
  | [] => []
  | v :: vs => (match refOf v with
    | some (k, _) => [k]
    | none => match v with
      | .fn _ cs | .agg cs => cs.filterMap fun c => (refOf c).map (·.1)
      | _ => []) ++ rootKeys vs

/-- A callee's name of a block, as the caller has it: behind a root's own name, or behind the call's slot. -/
def bring (d : Nat) (pk : Pk) : Nat → Nat → Nat
  | 0, p => nest d p
  | n + 1, p => match pk.find? fun x => x.2.2.1 == p with
    | some x => x.1
    | none => if Nat.ble 1000000 p then nest (bring d pk n (p / 1000000 - 1)) (p % 1000000) else nest d p

/-- How what comes back is named: a root keeps its name and stamp, the others get new ones. -/
def backPk (st : St) (d tag : Nat) (pk : Pk) (roots : List Nat) : List (Option (List AV)) → Option Pk
  | [] => some []
  | some (.mref k' _ :: _) :: r => do
    let rest ← backPk st d tag pk roots r
    match (if roots.contains k' then pk.find? fun x => x.2.2.1 == k' else none) with
    | some x => some ((k', (tag, 0), x.1, x.2.1) :: rest)
    | none => some ((k', (tag, 0), bring d (pk.filter fun x => roots.contains x.2.2.1) 20 k', (st.tag, st.next)) :: rest)
  | _ :: _ => none

/-- What comes back, laid down again. -/
def backHeap (pk : Pk) : Pk → List (Option (List AV)) → List (Nat × Blk)
  | (_, _, k2, g2) :: l, some (_ :: cells) :: r => (k2, ⟨g2, renL pk cells⟩) :: backHeap pk l r
  | _, _ => []

def lenOf (st : St) (k : Nat) : Option Nat := (aget k st.heap).map (·.cells.length)

/-- New names are no slots' own; a root is as long as it was. -/
def backOk (st : St) (roots : List Nat) : Pk → List (Option (List AV)) → Bool
  | (k', _, k2, _) :: l, some (_ :: cells) :: r => (if roots.contains k' then lenOf st k2 == some cells.length else Nat.ble 1000000 k2 || isMapKey k2) && backOk st roots l r
  | [], [] => true
  | _, _ => false

/-- A call that takes all memory with it that its arguments reach. -/
def hCall (rd : Option (List Nat)) (Γ : Oracle) (st : St) (d : Nat) (f : Nat) (args : List AV) : Option (AV × St) := do
  let pk ← visit rd st (st.tag + 1, 0) 200 (rootsAt 0 args) []
  if pkOk pk then
    let l ← packed st pk pk
    let (v, r) ← Γ (f + 1000000000) (st.tag + 1) (.mapd [] [] :: args.map (ren pk)) l
    let roots := rootKeys (args.map (ren pk))
    let bk ← backPk st d (st.tag + 1) pk roots r
    if (bk.map (·.2.2.1)).all (okKey rd) && (pkOk bk && backOk st roots bk r) then
      some (ren bk v, { st with
        heap := backHeap bk bk r ++ st.heap.filter fun p => !(pk.map (·.1)).contains p.1 && !(bk.map (·.2.2.1)).contains p.1
        next := st.next + 1 })
    else none
  else none

def isAppend : Builtin → Bool
  | .append => true
  | _ => false

/-- A block becomes as long as the slice that is appended to. -/
def shorten (st : St) : List AV → Option (List AV × St)
  | .msl s g z o m :: r => (blkOf st s g).bind fun cells => if o + m * z ≤ cells.length then some (.msl s (st.tag, st.next) z o m :: r, (newBlk st s (cells.take (o + m * z))).2) else none
  | l => some (l, st)

def denOp (L : Nat → Option TI) (K : Ann) (Γ : Oracle) (st : St) (d ty : Nat) (op : Op) : Option (AV × St) :=
  match op with
  | .move x => some (operand st x, st)
  | .assign x =>
    match x, operand st x with
    | .const _, .nsl => if K.own.contains d then (slElem L ty).map fun e => let p := newBlk st d []; (.msl d p.1 e.size 0 0, p.2) else some (.nsl, st)
    | _, v => some (v, st)
  | .pick c a b => match operand st c with
    | .bool x => some (if x then operand st a else operand st b, st)
    | _ => none
  | .alloc e => do
    let i ← L e
    let p := newBlk st d i.zero
    some (.ref d p.1 0, p.2)
  | .box _ x => if (operand st x).solid then (let p := newBlk st d (operand st x).cells; some (.ref d p.1 0, p.2)) else none
  | .build t ps => do
    let i ← L t
    match i.desc with
    | .strct fs => do
      let cs ← fillA (fun k => do let (o, ty) ← fs[k]?; let j ← L ty; some (o, j.size)) i.zero (parts st ps)
      some (.agg cs, st)
    | .arr _ e => do
      let j ← L e
      let cs ← fillA (fun k => some (k * j.size, j.size)) i.zero (parts st ps)
      some (.agg cs, st)
    | _ => none
  | .buildSlice t n ps => do
    let e ← slElem L t
    if n * e.size ≤ 16777216 ∧ e.zero.length = e.size ∧ 0 < e.size then
      let cs ← fillA (fun k => some (k * e.size, e.size)) (repl n e.zero) (parts st ps)
      let p := newBlk st d cs
      some (.msl d p.1 e.size 0 n, p.2)
    else none
  | .load t a => if !okRead (aget d K.reads) (operand st a) then none else do
    let i ← L t
    let v ← gLoad K.reads i st (operand st a)
    some (v, st)
  | .store t a x => if !okStore (K.storeAt a) (operand st a) then none else do
    let i ← L t
    let st' ← aStore i st (operand st a) (operand st x)
    some (.tup [], st')
  | .nilCheck x => match operand st x with
    | .ref s g o => some (.ref s g o, st)
    | .ipt c => some (.ipt c, st)
    | _ => none
  | .binOp op t x y _ => (aBinN L t op (isConstO x || isConstO y) (operand st x) (operand st y)).map fun v => (v, st)
  | .unOp op _ x => (aUn op (operand st x)).map fun v => (v, st)
  | .typeAssert x _ t ok => (aAs L t ok (operand st x)).map fun v => (v, st)
  | .convert s t x => do
    let i ← L s
    let j ← L t
    match i.desc, j.desc, operand st x with
    | .int _, .int k, .int _ n => some (.int k (k.wrap n), st)
    | .slice e, .str, v => if !okRead (aget d K.reads) v then none else do
      let ie ← L e
      match ie.desc with
      | .int .u8 => do
        let (_, cells) ← slCells st 1 v
        let xs ← u8s cells
        some (.str (strOfNums xs), st)
      | _ => none
    | _, _, _ => none
  | .makeSlice t len cap => do
    let e ← slElem L t
    match operand st len, operand st cap with
    | .int _ n, .int _ k =>
      if 0 ≤ n ∧ n ≤ k ∧ k.toNat * e.size ≤ 16777216 ∧ k.toNat * e.bytes ≤ 140737488355328 ∧ k ≤ 140737488355328 ∧ e.zero.length = e.size ∧ 0 < e.size then
        let p := newBlk st d (repl n.toNat e.zero)
        some (.msl d p.1 e.size 0 n.toNat, p.2)
      else none
    | _, _ => none
  | .fieldAddr s x f => do
    let (o, j) ← fieldOf L s f
    if j.size = 0 then none else
    match operand st x with
    | .ref s g k => some (.ref s g (k + o), st)
    | .ipt cells => some (.ipt (cells.drop o), st)
    | _ => none
  | .field s x f => do
    let (o, j) ← fieldOf L s f
    match operand st x with
    | .agg cs => do let v ← rdCells j cs o; some (v, st)
    | _ => none
  | .indexAddr t x ix => if !okRead (aget d K.reads) (operand st x) then none else do
    let i ← L t
    let k ← asInt? (operand st ix)
    match i.desc with
    | .arr n e => do
      let j ← L e
      if 0 ≤ k ∧ k < n then
        match operand st x with
        | .ref s g o => some (.ref s g (o + k.toNat * j.size), st)
        | .ipt cells => some (.ipt (cells.drop (k.toNat * j.size)), st)
        | _ => none
      else none
    | .slice e => do
      let j ← L e
      match operand st x with
      | .msl s g z o n => if z = j.size ∧ 0 ≤ k ∧ k < n ∧ (blkOf st s g).isSome then some (.ref s g (o + k.toNat * j.size), st) else none
      | .isl z n cells => if z = j.size ∧ 0 ≤ k ∧ k < n then some (.ipt (cells.drop (k.toNat * j.size)), st) else none
      | .fsl z n cells => if z = j.size ∧ 0 ≤ k ∧ k < n then some (.ipt (cells.drop (k.toNat * j.size)), st) else none
      | _ => none
    | _ => none
  | .index t x ix => do
    let i ← L t
    let k ← asInt? (operand st ix)
    match i.desc, operand st x with
    | .arr n e, .agg cs => do
      let j ← L e
      if 0 ≤ k ∧ k < n then do let v ← rdCells j cs (k.toNat * j.size); some (v, st) else none
    | .str, .str s => if 0 ≤ k then (s[k.toNat]?).map fun b => (.int .u8 b.toNat, st) else none
    | _, _ => none
  | .slice t x lo hi (some mx) => if !okRead (aget d K.reads) (operand st x) then none else do
    let i ← L t
    match i.desc with
    | .slice e => do
      let _ ← L e
      let n ← slLen (operand st x)
      let k ← asInt? (operand st mx)
      let h ← bnd (-1) (hi.map (operand st))
      let l ← bnd 0 (lo.map (operand st))
      if 0 ≤ l ∧ l = h ∧ h = k ∧ k ≤ n ∧ (operand st x).isStr = false then some (.nsl, st) else none
    | _ => none
  | .slice t x lo hi none => do
    if !okRead (aget d K.reads) (operand st x) then none else
    let i ← L t
    match i.desc with
    | .str => do let v ← aStrSlice (operand st x) (lo.map (operand st)) (hi.map (operand st)); some (v, st)
    | .slice e => do
      let j ← L e
      let v ← aSlice j.size (operand st x) (lo.map (operand st)) (hi.map (operand st))
      some (v, st)
    | .arr n e => do
      let j ← L e
      match operand st x with
      | .ref s g o => do
        let cells ← blkOf st s g
        if o + n * j.size ≤ cells.length then do let v ← aSlice j.size (.msl s g j.size o n) (lo.map (operand st)) (hi.map (operand st)); some (v, st) else none
      | _ => none
    | _ => none
  | .extract x k => match operand st x with
    | .tup vs => do let v ← vs[k]?; some (v, st)
    | _ => none
  | .makeMap t none => do
    let _ ← mapTy L t
    let p := newBlk st (d + 500000) [.mapd [] []]
    some (.mref (d + 500000) p.1, p.2)
  | .lookup t x ix ok => do
    let (kt, e) ← mapTy L t
    let j ← L e
    let (ks, vs) ← mapArg st (operand st x)
    let (v, is) ← mlook kt j.zeroAV (operand st ix) ks vs
    some (if ok then .tup [v, .bool is] else v, st)
  | .mapUpdate t x k v => do
    let (kt, _) ← mapTy L t
    match operand st x with
    | .mref s g => do
      let (ks, vs) ← mapOf st s g
      if keyEq kt (operand st k) (operand st k) = some true ∧ (operand st v).solid ∧ (operand st v).top then do
        let (ks', vs') ← mput kt (operand st k) (operand st v) ks vs
        some (.tup [], putCells st s [.mapd ks' vs'])
      else none
    | _ => none
  | .makeFunc fn first captured => match fn with
    | .func f => if first.size = 0 then (if (captured.toList.map (operand st)).all AV.isRef then some (.fn f (captured.toList.map (operand st)), st) else none) else none
    | _ => none
  | .call c => match c.callee with
    | .builtin b => if K.hp.contains d && isAppend b then (shorten st (c.args.toList.map (operand st))).bind fun q => aBuiltin L q.2 d b c.argTypes.toList q.1 else aBuiltin L st d b c.argTypes.toList (c.args.toList.map (operand st))
    | .value f => match operand st f with
      | .fn g captured => if K.hp.contains d then hCall (aget d K.reads) Γ st d g (c.args.toList.map (operand st) ++ captured) else if !(c.args.toList.map (operand st) ++ captured).all (okRead (aget d K.reads)) then none else if K.ro.contains d then roCall L Γ st g (c.args.toList.map (operand st) ++ captured) c.argTypes.toList else aCall L (K.own.contains d) Γ st d g (c.args.toList.map (operand st) ++ captured) c.argTypes.toList
      | _ => none
    | .invoke .. => none
  | _ => none

/-- Is an operation carried out? (No answer: it isn't known.) -/
def runs (ops : List Oper) (st : St) (o : Oper) : Option Bool :=
  match o.guard with
  | none => some true
  | some (j, want) =>
    match (ops[j]?).bind (·.dst) with
    | some d => match aget d st.env with
      | some (.bool b) => some (b == want)
      | some (.tup []) => some false
      | _ => none
    | none => none

def putD (st : St) (d : Option Nat) (v : AV) : St :=
  match d with
  | some d => { st with env := aput d v st.env }
  | none => st

def denOper (L : Nat → Option TI) (K : Ann) (Γ : Oracle) (ops : List Oper) (o : Oper) (st : St) : Option St :=
  if o.dst.getD 0 < K.nt then
  match runs ops st o with
  | some true => (denOp L K Γ st (o.dst.getD 0) o.type o.op).map fun p => putD p.2 o.dst p.1
  | some false => some (putD st o.dst (.tup []))
  | none => none
  else none

def denOps (L : Nat → Option TI) (K : Ann) (Γ : Oracle) (ops : List Oper) : List Oper → St → Option St
  | [], st => some st
  | o :: l, st => (denOper L K Γ ops o st).bind (denOps L K Γ ops l)

/-- Behind a region only what is kept goes on. -/
def tidy (cross : List Nat) : List Oper → St → St
  | [], st => st
  | o :: l, st => tidy cross l (match o.dst with
    | some d => if cross.contains d then st else { st with env := adel d st.env }
    | none => st)


def keepKey (sites : List Nat) (k : Nat) : Bool := Nat.ble 500000 k && sites.contains (grp k)

/-- At a loop's head only what lives goes on. -/
def trim (h : Option (Nat × List Nat × List Nat)) (st : St) : St :=
  match h with
  | some (_, slots, sites) => { st with
      env := slots.filterMap fun k => (aget k st.env).map (k, ·)
      heap := (sites.filterMap fun k => (aget k st.heap).map (k, ·)) ++ st.heap.filter fun p => keepKey sites p.1 }
  | none => st

def firstRegion : Code → Nat
  | .region id _ _ => id
  | .seq a _ => firstRegion a
  | .block _ a => firstRegion a
  | .loop a => firstRegion a
  | _ => 0

/-- Rounds of a loop. -/
def loopF (f : St → Option (Ex × St)) : Nat → St → Option (Ex × St)
  | 0, _ => none
  | n + 1, st => match f st with
    | some (.normal, st') => loopF f n st'
    | r => r

open Classical in
noncomputable def loopω (f : St → Option (Ex × St)) (st : St) : Option (Ex × St) :=
  if h : ∃ n, (loopF f n st).isSome then loopF f h.choose st else none

/-! ## regions that draw their order -/

def ptrFree (L : Nat → Option TI) (t : Nat) : Bool :=
  match L t with
  | some i => match i.desc with
    | .bool | .int _ | .str | .slice _ | .func => true
    | _ => false
  | none => false

/-- What an operation touches: the blocks that it reads, those that it writes (none: any), whether it makes a stamp. -/
structure FP where
  rd : Option (List Nat)
  wr : Option (List Nat)
  nx : Bool

def FP.no : FP := ⟨some [], some [], false⟩
def FP.all : FP := ⟨none, none, true⟩

def isFn : Operand → Bool
  | .func _ => true
  | _ => false

def fpOf (L : Nat → Option TI) (K : Ann) (d : Nat) (op : Op) : FP :=
  match op with
  | .convert s _ _ => match L s with
    | some i => match i.desc with
      | .slice _ => ⟨aget d K.reads, some [], false⟩
      | _ => .no
    | none => .no
  | .makeSlice .. => ⟨some [], some [3 * grp d], true⟩
  | .move _ | .pick .. | .binOp .. | .unOp .. | .typeAssert .. | .fieldAddr .. | .field .. | .index .. | .extract .. | .build .. | .nilCheck _ | .makeFunc .. => .no
  | .assign _ => if K.own.contains d then ⟨some [], some [3 * grp d], true⟩ else .no
  | .alloc _ | .box .. | .buildSlice .. => ⟨some [], some [3 * grp d], true⟩
  | .load .. | .indexAddr .. | .slice .. => ⟨aget d K.reads, some [], false⟩
  | .store _ a _ => match K.storeAt a with
    | some s => ⟨some [], some [3 * s + 1], false⟩
    | none => ⟨some [], none, false⟩
  | .call c => match c.callee with
    | .builtin .len | .builtin .min | .builtin .max => .no
    | .value f => if K.hp.contains d then ⟨aget d K.reads, aget d K.reads, true⟩ else if K.ro.contains d then ⟨aget d K.reads, some [], false⟩ else
      let free := isFn f && (c.args.size == c.argTypes.size && c.argTypes.toList.all (ptrFree L))
      ⟨aget d K.reads, if free then some (if K.own.contains d then [3 * grp d] else []) else (aget d K.reads).map fun l => if K.own.contains d then 3 * grp d :: l else l, K.own.contains d⟩
    | _ => .all
  | _ => .all

/-- Do two numbers of footprints stand for no key in common? -/
def apartA (a b : Nat) : Bool := match Nat.beq (a % 3) 0, Nat.beq (b % 3) 0 with
  | true, true => !Nat.beq a b
  | true, false => !Nat.beq (grp (b / 3)) (a / 3)
  | false, true => !Nat.beq (grp (a / 3)) (b / 3)
  | false, false => !Nat.beq (grp (a / 3)) (grp (b / 3)) ||
    match Nat.beq (a % 3) 1, Nat.beq (b % 3) 1 with
    | true, _ => !hits (a / 3) b
    | false, true => !hits (b / 3) a
    | false, false => false

def apartF : Option (List Nat) → Option (List Nat) → Bool
  | some [], _ => true
  | _, some [] => true
  | some l, some l' => l.all fun k => l'.all (apartA k)
  | _, _ => false

/-- Two operations that may be turned round. -/
def turnOk (L : Nat → Option TI) (K : Ann) (ops : Array Oper) (x y : Oper) : Bool :=
  x.apart ops y &&
    (let p := fpOf L K (x.dst.getD 0) x.op
     let q := fpOf L K (y.dst.getD 0) y.op
     apartF p.rd q.wr && apartF p.wr q.rd && apartF p.wr q.wr && !(p.nx && q.nx))

/-- Those that an operation waits for. -/
def directs (o : Oper) : List Nat := o.after.toList.filterMap fun e => if Region.binds .any e then some e.on else none

def waits (ops : Array Oper) : Nat → Nat → List Nat
  | 0, i => match ops[i]? with
    | some o => directs o
    | none => []
  | n + 1, i => let l := waits ops n i
    (l ++ l.flatMap fun j => match ops[j]? with
      | some o => directs o
      | none => []).eraseDups

/-- All orders of the region do the same. -/
def drawOk (L : Nat → Option TI) (K : Ann) (ops : Array Oper) : Bool :=
  (List.range ops.size).all fun i => match ops[i]? with
    | none => false
    | some y => (directs y).all (· < i) && (let l := waits ops 12 i
      (List.range i).all fun j => match ops[j]? with
        | none => false
        | some x => l.contains j || turnOk L K ops x y)

def drawsOk (L : Nat → Option TI) (K : Ann) : Code → Bool
  | .region _ ops draw => !draw || drawOk L K ops
  | .seq a b => drawsOk L K a && drawsOk L K b
  | .cond _ a b => drawsOk L K a && drawsOk L K b
  | .block _ a => drawsOk L K a
  | .loop a => drawsOk L K a
  | _ => true

def den (lp : (St → Option (Ex × St)) → St → Option (Ex × St)) (L : Nat → Option TI) (K : Ann) (Γ : Oracle) : Code → St → Option (Ex × St)
  | .skip, st => some (.normal, st)
  | .region _ ops _, st => (denOps L K Γ ops.toList ops.toList st).map fun st' => (.normal, tidy K.cross ops.toList st')
  | .seq a b, st => match den lp L K Γ a st with
    | some (.normal, st') => den lp L K Γ b st'
    | r => r
  | .cond c a b, st => match operand st c with
    | .bool x => if x then den lp L K Γ a st else den lp L K Γ b st
    | _ => none
  | .block id a, st => match den lp L K Γ a st with
    | some (.exit j, st') => if j = id then some (.normal, st') else some (.exit j, st')
    | r => r
  | .loop a, st => lp (fun s => den lp L K Γ a (trim (K.heads.find? (·.1 == firstRegion a)) s)) st
  | .exit id, st => some (.exit id, st)
  | .ret, st => some (.ret, st)
  | _, _ => none

/-! ## functions -/

/-- A function as the interpreter has it: its code, how many parameters (what it captures among them), the results' slots, what is added; at which places of a struct that is a result a slice may stand. -/
structure AFn where
  body : Code
  np : Nat
  results : List ResultVar
  ann : Ann
  frz : List Nat

/-- A function of the table: interpreted (hcode: with memory handed to it; its number is 1000000000 more), or answered by a law of its own. -/
inductive Entry where
  | code (a : AFn)
  | hcode (a : AFn)
  | law (o : Nat → List AV → List (Option (List AV)) → Option (AV × List (Option (List AV))))
  | hlaw (o : Nat → List AV → List (Option (List AV)) → Option (AV × List (Option (List AV))))

def argEnv : Nat → List AV → List (Nat × AV)
  | _, [] => []
  | k, v :: vs => (k, v) :: argEnv (k + 1) vs

def lentHeap (tag : Nat) : Nat → List (Option (List AV)) → List (Nat × Blk)
  | _, [] => []
  | k, none :: l => lentHeap tag (k + 1) l
  | k, some cells :: l => (k, ⟨(tag, 0), cells⟩) :: lentHeap tag (k + 1) l

/-- What was lent, as it is now. -/
def lentOut (st : St) : Nat → List (Option (List AV)) → Option (List (Option (List AV)))
  | _, [] => some []
  | k, none :: l => (lentOut st (k + 1) l).map (none :: ·)
  | k, some old :: l => do
    let cells ← blkOf st k (st.tag, 0)
    let r ← lentOut st (k + 1) l
    if cells.length = old.length ∧ cells.all AV.plain then some (some cells :: r) else none

def getRes (L : Nat → Option TI) (st : St) : ResultVar → Option AV
  | .tmp k => some ((aget k st.env).getD .junk)
  | .cell k t => (L t).bind fun i => aLoad i st ((aget k st.env).getD .junk)

def getAll (L : Nat → Option TI) (st : St) : List ResultVar → Option (List AV)
  | [] => some []
  | k :: ks => (getRes L st k).bind fun v => (getAll L st ks).map (v :: ·)

def oneOrTup : List AV → AV
  | [v] => v
  | vs => .tup vs

def runFn (lp : (St → Option (Ex × St)) → St → Option (Ex × St)) (L : Nat → Option TI) (a : AFn) (Γ : Oracle) (tag : Nat) (args : List AV) (lent : List (Option (List AV))) :
    Option (AV × List (Option (List AV))) :=
  if args.length = a.np ∧ lent.length = a.np then
    match den lp L a.ann Γ a.body { env := argEnv 0 args, heap := lentHeap tag 0 lent, next := 1, tag } with
    | some (.exit _, _) | none => none
    | some (_, st) => do
      let gs ← getAll L st a.results
      let (vs, _) ← freezeAll a.np a.frz st gs
      let r ← lentOut st 0 lent
      some (oneOrTup vs, r)
  else none

/-- A function that has been handed memory. -/
def runFnH (lp : (St → Option (Ex × St)) → St → Option (Ex × St)) (L : Nat → Option TI) (a : AFn) (Γ : Oracle) (tag : Nat) (args : List AV) (lent : List (Option (List AV))) :
    Option (AV × List (Option (List AV))) :=
  if args.length = a.np then
    match den lp L a.ann Γ a.body { env := argEnv 0 args, heap := hHeap tag lent, next := 1, tag } with
    | some (.exit _, _) | none => none
    | some (_, st) => do
      let gs ← getAll L st a.results
      let pk ← visit none st (tag, 0) 200 (rootsAt 0 args ++ rootsAt 400000 gs) []
      if pkOk pk && st.tag == tag && (rootKeys args).all (fun k => look k (tag, 0) pk == some (k, (tag, 0))) then
        let r ← packed st pk pk
        some (oneOrTup (gs.map (ren pk)), r)
      else none
  else none

def callN (lp : (St → Option (Ex × St)) → St → Option (Ex × St)) (L : Nat → Option TI) (T : Nat → Option Entry) : Nat → Oracle
  | 0 => fun _ _ _ _ => none
  | n + 1 => fun f tag args lent =>
    match T f with
    | none => none
    | some (.law o) => o tag args lent
    | some (.code a) => runFn lp L a (callN lp L T n) tag args lent
    | some (.hcode a) => match args with
      | .mapd [] [] :: as => runFnH lp L a (callN lp L T n) tag as lent
      | _ => none
    | some (.hlaw o) => match args with
      | .mapd [] [] :: as => o tag as lent
      | _ => none

open Classical in
noncomputable def callω (L : Nat → Option TI) (T : Nat → Option Entry) : Oracle := fun f tag args lent =>
  if h : ∃ n, (callN loopω L T n f tag args lent).isSome then callN loopω L T h.choose f tag args lent else none

end Go.Sim
