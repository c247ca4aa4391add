/- An interpreter of the model's code on values that hold their memory in themselves: its definitions. Nothing is claimed here. -/
import Derived.WalkKit
import Derived.Laws.BytesArg
import Derived.Laws.MakeOwn
namespace Go.Sim

/-- A value as the interpreter has it. 'ref': an address in a block of this activation's own; 'msl': a slice of such a block; 'isl': a slice that is only read; 'ipt': an address that is only read; 'fsl': a slice in new memory (in a result); 'junk': anything. -/
inductive AV where
  | junk
  | bool (b : Bool)
  | int (k : IntKind) (n : Int)
  | str (s : ByteArray)
  | nilp
  | ref (site : Nat) (stamp : Nat × Nat) (off : Nat)
  | msl (site : Nat) (stamp : Nat × Nat) (sz off len : Nat)
  | isl (sz len : Nat) (cells : List AV)
  | fsl (sz len : Nat) (cells : List AV)
  | nsl
  | ipt (cells : List AV)
  | agg (cells : List AV)
  | tup (vs : List AV)
  | nilI
  | nilF
  | fn (f : Nat) (captured : List AV)
  deriving Inhabited

/-- What is asked of a type. -/
inductive TD where
  | bool | int (k : IntKind) | str | ptr (e : Nat) | slice (e : Nat) | arr (n e : Nat) | strct (fs : List (Nat × Nat)) | func | other
  deriving Inhabited

structure TI where
  desc : TD
  size : Nat
  bytes : Nat
  zero : List AV
  deriving Inhabited

def TI.isAgg (i : TI) : Bool := match i.desc with | .arr .. | .strct _ => true | _ => false

structure Blk where
  stamp : Nat × Nat
  cells : List AV
  deriving Inhabited

structure St where
  env : List (Nat × AV)
  heap : List (Nat × Blk)
  next : Nat
  tag : Nat
  deriving Inhabited

/-- What a user adds to a function's code: which slots are kept beyond a region ('cross'); what lives at a loop's head (by the loop's first region: slots, sites); in which slots a nil slice, or a call's new slice, becomes a block of one's own; which blocks of one's own an operation reads at most (by its slot); into which one is stored (by the address's slot); which calls leave what is lent as it is ('ro'). -/
structure Ann where
  nt : Nat
  cross : List Nat
  heads : List (Nat × List Nat × List Nat)
  own : List Nat
  reads : List (Nat × List Nat)
  stores : List (Nat × Nat)
  ro : List Nat

inductive Ex where
  | normal | exit (id : Nat) | ret

def aget {α : Type} (k : Nat) : List (Nat × α) → Option α
  | [] => none
  | (j, v) :: l => if j = k then some v else aget k l

def Ann.storeAt (K : Ann) : Operand → Option Nat
  | .tmp t => aget t K.stores
  | _ => none

def aput {α : Type} (k : Nat) (v : α) : List (Nat × α) → List (Nat × α)
  | [] => [(k, v)]
  | (j, u) :: l => if j = k then (k, v) :: l else (j, u) :: aput k v l

def adel {α : Type} (k : Nat) : List (Nat × α) → List (Nat × α)
  | [] => []
  | (j, u) :: l => if j = k then adel k l else (j, u) :: adel k l

/-! ## values -/

def ofScalar : Value → AV
  | .bool b => .bool b
  | .int k n => .int k n
  | .string s => .str s
  | .pointer none => .nilp
  | .slice none 0 0 => .nsl
  | .nilIface => .nilI
  | .nilFunc => .nilF
  | _ => .junk

def ofCells : List Value → Option (List AV)
  | [] => some []
  | v :: l => match ofScalar v with
    | .junk => none
    | x => (ofCells l).map (x :: ·)

def ofConst : Value → AV
  | .agg cs => match ofCells cs.toList with
    | some l => .agg l
    | none => .junk
  | .tuple vs => .tup (vs.toList.map ofScalar)
  | v => ofScalar v

def AV.cells : AV → List AV
  | .agg cs => cs
  | .fsl z n cs => [.isl z n cs]
  | v => [v]

def operand (st : St) : Operand → AV
  | .tmp t => (aget t st.env).getD .junk
  | .const v => ofConst v
  | .func f => .fn f []
  | .global _ => .junk

/-- Reading a variable of a type out of cells. -/
def rdCells (i : TI) (cells : List AV) (o : Nat) : Option AV :=
  if i.isAgg then (if o + i.size ≤ cells.length then some (.agg ((cells.drop o).take i.size)) else none) else cells[o]?

/-- Cells over cells. -/
def setR (cells : List AV) (o : Nat) (vs : List AV) : List AV := cells.take o ++ vs ++ cells.drop (o + vs.length)

def AV.isRef : AV → Bool
  | .ref _ _ _ => true
  | _ => false

/-- A value that fills one cell, or a struct's or an array's cells. -/
def AV.solid : AV → Bool
  | .junk | .tup _ => false
  | _ => true

/-- Does a value lead to none of one's own blocks but those? -/
def okRead : Option (List Nat) → AV → Bool
  | some l, .ref s _ _ => l.contains s
  | some l, .msl s _ _ _ _ => l.contains s
  | _, _ => true

def okStore : Option Nat → AV → Bool
  | some s, .ref s' _ _ => s == s'
  | some _, _ => false
  | none, _ => true

/-- A plain value: no memory in it. -/
def AV.plain : AV → Bool
  | .bool _ | .int .. | .str _ | .nilp | .nsl | .nilI | .nilF => true
  | _ => false

/-! ## arithmetic -/

def aShift (op : BinOp) (k : IntKind) (x y : Int) : Option AV :=
  if y < 0 then none else
  match op with
  | .shl => some (.int k (k.wrap (x * 2 ^ min y.toNat k.bits)))
  | .shr => some (.int k (x.fdiv (2 ^ min y.toNat k.bits)))
  | _ => none

def aInt (op : BinOp) (k : IntKind) (x y : Int) : Option AV :=
  match op with
  | .add => some (.int k (k.wrap (x + y)))
  | .sub => some (.int k (k.wrap (x - y)))
  | .mul => some (.int k (k.wrap (x * y)))
  | .quo => if y = 0 then none else some (.int k (k.wrap (x.tdiv y)))
  | .rem => if y = 0 then none else some (.int k (x.tmod y))
  | .and => some (.int k (k.wrap (BitVec.ofInt k.bits x &&& BitVec.ofInt k.bits y).toNat))
  | .or => some (.int k (k.wrap (BitVec.ofInt k.bits x ||| BitVec.ofInt k.bits y).toNat))
  | .xor => some (.int k (k.wrap (BitVec.ofInt k.bits x ^^^ BitVec.ofInt k.bits y).toNat))
  | .andNot => some (.int k (k.wrap (BitVec.ofInt k.bits x &&& ~~~ BitVec.ofInt k.bits y).toNat))
  | .eql => some (.bool (x == y))
  | .neq => some (.bool (x != y))
  | .lss => some (.bool (x < y))
  | .leq => some (.bool (x ≤ y))
  | .gtr => some (.bool (x > y))
  | .geq => some (.bool (x ≥ y))
  | _ => none

/-- Equality of parts, field by field, element by element. -/
def eqFs (L : Nat → Option TI) (f : Nat → AV → AV → Option Bool) (xs ys : List AV) : List (Nat × Nat) → Option Bool
  | [] => some true
  | (o, ty) :: fs => match L ty with
    | none => none
    | some j => match rdCells j xs o, rdCells j ys o with
      | some a, some b => match f ty a b with
        | some true => eqFs L f xs ys fs
        | r => r
      | _, _ => none
def eqEs (j : TI) (f : AV → AV → Option Bool) (xs ys : List AV) : List Nat → Option Bool
  | [] => some true
  | k :: ks => match rdCells j xs (k * j.size), rdCells j ys (k * j.size) with
    | some a, some b => match f a b with
      | some true => eqEs j f xs ys ks
      | r => r
    | _, _ => none
/-- Equality at a type. -/
def eqT (L : Nat → Option TI) : Nat → Nat → AV → AV → Option Bool
  | 0, _, _, _ => none
  | d + 1, t, x, y => match L t with
    | none => none
    | some i => match i.desc, x, y with
      | .bool, .bool a, .bool b => some (a == b)
      | .int _, .int k a, .int k' b => if k = k' then some (a == b) else none
      | .str, .str a, .str b => some (a.toList == b.toList)
      | .strct fs, .agg xs, .agg ys => eqFs L (eqT L d) xs ys fs
      | .arr n e, .agg xs, .agg ys => match L e with
        | some j => eqEs j (eqT L d e) xs ys (List.range n)
        | none => none
      | _, _, _ => none

def aBin (L : Nat → Option TI) (t : Nat) (op : BinOp) (x y : AV) : Option AV :=
  match x, y with
  | .int k a, .int k' b =>
    match op with
    | .shl | .shr => aShift op k a b
    | _ => if k = k' then aInt op k a b else none
  | .bool a, .bool b =>
    match L t with
    | some ⟨.bool, _, _, _⟩ =>
      match op with
      | .eql => some (.bool (a == b))
      | .neq => some (.bool (!(a == b)))
      | _ => none
    | _ => none
  | .str a, .str b =>
    match op with
    | .eql => some (.bool (a.toList == b.toList))
    | .neq => some (.bool (!(a.toList == b.toList)))
    | _ => none
  | .agg xs, .agg ys =>
    match op with
    | .eql => (eqT L 20 t (.agg xs) (.agg ys)).map .bool
    | .neq => (eqT L 20 t (.agg xs) (.agg ys)).map fun b => .bool (!b)
    | _ => none
  | _, _ => none

def aUn (op : UnOp) (x : AV) : Option AV :=
  match op, x with
  | .neg, .int k n => aInt .sub k 0 n
  | .xor, .int k n => aInt .xor k (if k.signed then -1 else k.max) n
  | .not, .bool b => some (.bool (!b))
  | _, _ => none

/-- The numbers of a row of bytes. -/
def u8s : List AV → Option (List Int)
  | [] => some []
  | .int .u8 n :: l => (u8s l).map (n :: ·)
  | _ => none

def AV.isStr : AV → Bool
  | .str _ => true
  | _ => false

/-! ## memory -/

/-- The block of an address, if it is still the one that the address was made for. -/
def blkOf (st : St) (site : Nat) (stamp : Nat × Nat) : Option (List AV) :=
  match aget site st.heap with
  | some b => if b.stamp = stamp then some b.cells else none
  | none => none

/-- A new block. -/
def newBlk (st : St) (site : Nat) (cells : List AV) : (Nat × Nat) × St :=
  ((st.tag, st.next), { st with heap := aput site ⟨(st.tag, st.next), cells⟩ st.heap, next := st.next + 1 })

def putCells (st : St) (site : Nat) (cells : List AV) : St :=
  match aget site st.heap with
  | some b => { st with heap := aput site { b with cells } st.heap }
  | none => st

def aLoad (i : TI) (st : St) : AV → Option AV
  | .ref s g o => (blkOf st s g).bind fun cells => rdCells i cells o
  | .ipt cells => rdCells i cells 0
  | _ => none

def aStore (i : TI) (st : St) (addr v : AV) : Option St :=
  match addr with
  | .ref s g o => (blkOf st s g).bind fun cells =>
    if v.solid ∧ v.cells.length = i.size ∧ o + i.size ≤ cells.length then some (putCells st s (setR cells o v.cells)) else none
  | _ => none

/-- The cells of a slice, and how many elements there are. -/
def slCells (st : St) (sz : Nat) : AV → Option (Nat × List AV)
  | .msl s g z o n => if z = sz then (blkOf st s g).bind fun cells => if o + n * sz ≤ cells.length then some (n, (cells.drop o).take (n * sz)) else none else none
  | .isl z n cells | .fsl z n cells => if z = sz ∧ cells.length = n * sz then some (n, cells) else none
  | .nsl => some (0, [])
  | _ => none

def slLen : AV → Option Nat
  | .msl _ _ _ _ n | .isl _ n _ | .fsl _ n _ => some n
  | .nsl => some 0
  | .str s => some s.size
  | _ => none

def asInt? : AV → Option Int
  | .int _ n => some n
  | _ => none

def bnd (d : Int) : Option AV → Option Int
  | some v => asInt? v
  | none => some d

/-- The part from l to h of a slice. -/
def cutA (sz l h : Nat) (av : AV) : Option AV :=
  match av with
  | .msl k g z o _ => if z = sz then some (.msl k g z (o + l * sz) (h - l)) else none
  | .isl z n cells => if z = sz ∧ cells.length = n * sz then some (.isl z (h - l) ((cells.drop (l * sz)).take ((h - l) * sz))) else none
  | .fsl z n cells => if z = sz ∧ cells.length = n * sz then some (.isl z (h - l) ((cells.drop (l * sz)).take ((h - l) * sz))) else none
  | .nsl => some .nsl
  | _ => none

/-- 'x[lo:hi]' of a slice with elements of so many cells. -/
def aSlice (sz : Nat) (x : AV) (lo hi : Option AV) : Option AV := do
  let n ← slLen x
  let h ← bnd n hi
  let l ← bnd 0 lo
  if 0 ≤ l ∧ l ≤ h ∧ h ≤ n then cutA sz l.toNat h.toNat x else none

def aStrSlice (x : AV) (lo hi : Option AV) : Option AV := do
  match x with
  | .str s =>
    let h ← bnd s.size hi
    let l ← bnd 0 lo
    if 0 ≤ l ∧ l ≤ h ∧ h ≤ s.size then some (.str (s.extract l.toNat h.toNat)) else none
  | _ => none

/-- 'append(s, x...)' at elements of so many cells: the result, the state. -/
def aAppend (sz bytes : Nat) (st : St) (d : Nat) (s x : AV) : Option (AV × St) := do
  let (n, new) ← slCells st sz x
  match s with
  | .nsl => if 0 < bytes ∧ 0 < sz ∧ n * bytes ≤ 140737488355328 then (let p := newBlk st d new; some (.msl d p.1 sz 0 n, p.2)) else none
  | .msl site g z o m =>
    let cells ← blkOf st site g
    if z = sz ∧ 0 < bytes ∧ 0 < sz ∧ o + m * sz = cells.length ∧ (m + n) * bytes ≤ 140737488355328 then
      let p := newBlk st site (cells.drop o ++ new)
      some (.msl site p.1 sz 0 (m + n), p.2)
    else none
  | _ => none

/-- Parts laid over cells. -/
def fillA (place : Nat → Option (Nat × Nat)) (cells : List AV) : List (Nat × AV) → Option (List AV)
  | [] => some cells
  | (i, v) :: rest =>
    match place i with
    | none => none
    | some (off, size) => if v.solid ∧ v.cells.length = size ∧ off + size ≤ cells.length then fillA place (setR cells off v.cells) rest else none

def repl (n : Nat) (z : List AV) : List AV := (List.replicate n z).flatten

/-! ## calls -/

/-- How a call answers: function, activation's tag, arguments, what is lent (the cells of each pointer argument): the result, what was lent as it is behind the call. -/
abbrev Oracle := Nat → Nat → List AV → List (Option (List AV)) → Option (AV × List (Option (List AV)))

/-- How many cells are lent behind an address of a type (a method's receiver bears its own type); of what was captured: all. -/
def lendSize (L : Nat → Option TI) (n : Nat) : Option Nat → Option Nat
  | none => some n
  | some t => do
    let i ← L t
    match i.desc with
    | .ptr e => do
      let ie ← L e
      some ie.size
    | .strct _ | .arr _ _ => some i.size
    | _ => none

/-- An argument as the callee has it (the j-th), what is lent with it, and where that lies. -/
def lend (L : Nat → Option TI) (st : St) (j : Nat) (v : AV) (t : Option Nat) : Option (AV × Option (List AV) × Option (Nat × Nat × Nat)) :=
  match v with
  | .ref s g o => do
    let cells ← blkOf st s g
    let n ← lendSize L (cells.length - o) t
    if o + n ≤ cells.length then some (.ref j (st.tag + 1, 0) 0, some ((cells.drop o).take n), some (s, o, n)) else none
  | .msl s g z o n => do
    let cells ← blkOf st s g
    if o + n * z ≤ cells.length then some (.isl z n ((cells.drop o).take (n * z)), none, none) else none
  | .fsl z n cells => some (.isl z n cells, none, none)
  | .tup _ => none
  | v => some (v, none, none)

def lendAll (L : Nat → Option TI) (st : St) : Nat → List AV → List Nat → Option (List (AV × Option (List AV) × Option (Nat × Nat × Nat)))
  | _, [], _ => some []
  | j, v :: vs, ts => do
    let x ← lend L st j v ts.head?
    let xs ← lendAll L st (j + 1) vs (ts.drop 1)
    some (x :: xs)

/-- No block is lent twice, none is lent that is read besides. -/
def lentFree (s : Nat) : List (Option (Nat × Nat × Nat)) → Bool
  | [] => true
  | none :: l => lentFree s l
  | some (s', _, _) :: l => s' != s && lentFree s l

def lentApart : List (Option (Nat × Nat × Nat)) → Bool
  | [] => true
  | none :: l => lentApart l
  | some (s, _, _) :: l => lentFree s l && lentApart l

def readFree (l : List (Option (Nat × Nat × Nat))) : List AV → Bool
  | [] => true
  | .msl s _ _ _ _ :: vs => lentFree s l && readFree l vs
  | _ :: vs => readFree l vs

/-- What was lent comes back. -/
def giveBack (st : St) : List (Option (Nat × Nat × Nat)) → List (Option (List AV)) → Option St
  | [], [] => some st
  | none :: l, none :: r => giveBack st l r
  | some (s, o, n) :: l, some cells :: r =>
    match aget s st.heap with
    | some b => if cells.length = n then giveBack (putCells st s (setR b.cells o cells)) l r else none
    | none => none
  | _, _ => none

/-- A result's new slice becomes a block of one's own. -/
def adopt (own : Bool) (st : St) (d : Nat) (v : AV) : AV × St :=
  if own then
    match v with
    | .fsl z n cells => let p := newBlk st d cells; (.msl d p.1 z 0 n, p.2)
    | v => (v, st)
  else (v, st)

/-- A result's slice, as it goes out: all of a block of one's own (no block of a parameter) is handed over with it; what a callee gave is handed on. With it: the block's site (of what a callee gave: one that stands for all). -/
def freezeSl (np : Nat) (st : St) : AV → Option (Nat × Nat × List AV × Nat)
  | .msl s g z o n => do
    let cells ← blkOf st s g
    if np ≤ s ∧ o = 0 ∧ 0 < z ∧ cells.length = n * z ∧ cells.all AV.plain then some (z, n, cells, s) else none
  | _ => none

/-- The same of a struct's or array's cells: at the places that are named a slice may stand, all else is plain. -/
def freezeAgg (np : Nat) (st : St) : List Nat → Nat → List AV → Option (List AV × List Nat)
  | [], _, cs => if cs.all AV.plain then some (cs, []) else none
  | p :: ps, k, cs => do
    let c ← cs[p - k]?
    match c with
    | .nsl => do
      let (r, ss) ← freezeAgg np st ps (p + 1) (cs.drop (p - k + 1))
      if (cs.take (p - k)).all AV.plain then some (cs.take (p - k) ++ .nsl :: r, ss) else none
    | c => do
      let (z, n, cells, s) ← freezeSl np st c
      let (r, ss) ← freezeAgg np st ps (p + 1) (cs.drop (p - k + 1))
      if (cs.take (p - k)).all AV.plain ∧ !ss.contains s then some (cs.take (p - k) ++ .isl z n cells :: r, s :: ss) else none

def passed : Nat := 1000000007

def freezeOne (np : Nat) (ps : List Nat) (st : St) (v : AV) : Option (AV × List Nat) :=
  match v with
  | .agg cs => (freezeAgg np st ps 0 cs).map fun p => (.agg p.1, p.2)
  | .msl s g z o n => (freezeSl np st (.msl s g z o n)).map fun p => (.fsl p.1 p.2.1 p.2.2.1, [p.2.2.2])
  | .fsl z n cells => some (.fsl z n cells, [passed])
  | v => if v.plain then some (v, []) else none

def freezeAll (np : Nat) (ps : List Nat) (st : St) : List AV → Option (List AV × List Nat)
  | [] => some ([], [])
  | v :: vs => do
    let (x, s) ← freezeOne np ps st v
    let (xs, ss) ← freezeAll np ps st vs
    if s.all (fun k => !ss.contains k) then some (x :: xs, s ++ ss) else none

/-! ## an operation -/

def fieldOf (L : Nat → Option TI) (s f : Nat) : Option (Nat × TI) := do
  let i ← L s
  match i.desc with
  | .strct fs => do
    let (o, t) ← fs[f]?
    let j ← L t
    some (o, j)
  | _ => none

def slElem (L : Nat → Option TI) (t : Nat) : Option TI := do
  let i ← L t
  match i.desc with
  | .slice e => L e
  | _ => none

def parts (st : St) (ps : Array (Nat × Operand)) : List (Nat × AV) := ps.toList.map fun p => (p.1, operand st p.2)

/-- A builtin. -/
def aBuiltin (L : Nat → Option TI) (st : St) (d : Nat) (b : Builtin) (ts : List Nat) (args : List AV) : Option (AV × St) :=
  match b, ts, args with
  | .len, t :: _, [x] => do
    let i ← L t
    match i.desc with
    | .str => match x with | .str s => some (.int .i64 s.size, st) | _ => none
    | .slice _ => match x with | .str _ => none | x => (slLen x).map fun n => (.int .i64 n, st)
    | .arr n _ => some (.int .i64 n, st)
    | _ => none
  | .append, t :: t' :: _, [s, x] => do
    let e ← slElem L t
    if t' = t ∧ e.zero.length = e.size then aAppend e.size e.bytes st d s x else none
  | .copy, t :: t' :: _, [.msl s g z o m, x] => do
    let e ← slElem L t
    let _ ← slElem L t'
    let (n, new) ← slCells st e.size x
    let cells ← blkOf st s g
    if z = e.size ∧ o + m * z ≤ cells.length then
      some (.int .i64 (min n m : Nat), putCells st s (setR cells o (new.take (min n m * z))))
    else none
  | .clear, t :: _, [.msl s g z o m] => do
    let e ← slElem L t
    let cells ← blkOf st s g
    if z = e.size ∧ o + m * z ≤ cells.length ∧ e.zero.length = z ∧ 0 < z then
      some (.tup [], putCells st s (setR cells o (repl m e.zero)))
    else none
  | .min, _, [.int k x, .int _ y] => some (.int k (if y < x then y else x), st)
  | .max, _, [.int k x, .int _ y] => some (.int k (if y > x then y else x), st)
  | _, _, _ => none

def sameP : AV → AV → Bool
  | .bool a, .bool b => a == b
  | .int k a, .int k' b => decide (k = k') && decide (a = b)
  | .str a, .str b => decide (a.data.toList = b.data.toList)
  | .nilp, .nilp => true
  | .nsl, .nsl => true
  | .nilI, .nilI => true
  | .nilF, .nilF => true
  | _, _ => false

theorem sameP_ok {a b : AV} (h : sameP a b = true) : a = b := by
  cases a <;> cases b <;> simp_all [sameP]
  rename_i x y
  obtain ⟨⟨x⟩⟩ := x
  obtain ⟨⟨y⟩⟩ := y
  simp_all

def samePs : List AV → List AV → Bool
  | [], [] => true
  | a :: as, b :: bs => sameP a b && samePs as bs
  | _, _ => false

theorem samePs_ok : ∀ {a b : List AV}, samePs a b = true → a = b
  | [], [], _ => rfl
  | a :: as, b :: bs, h => by
    simp only [samePs, Bool.and_eq_true] at h
    rw [sameP_ok h.1, samePs_ok h.2]
  | [], _ :: _, h => by cases h
  | _ :: _, [], h => by cases h

/-- Is what was lent as it was? -/
def lentSame : List (Option (List AV)) → List (Option (List AV)) → Bool
  | [], [] => true
  | none :: l, none :: r => lentSame l r
  | some a :: l, some b :: r => samePs a b && lentSame l r
  | _, _ => false

/-- A call that leaves what is lent as it is. -/
def roCall (L : Nat → Option TI) (Γ : Oracle) (st : St) (f : Nat) (args : List AV) (ts : List Nat) : Option (AV × St) := do
  let l ← lendAll L st 0 args ts
  if lentApart (l.map (·.2.2)) && readFree (l.map (·.2.2)) args then
    let (v, r) ← Γ f (st.tag + 1) (l.map (·.1)) (l.map (·.2.1))
    if lentSame (l.map (·.2.1)) r then some (v, st) else none
  else none

/-- A call of a function: the result, the state. -/
def aCall (L : Nat → Option TI) (own : Bool) (Γ : Oracle) (st : St) (d : Nat) (f : Nat) (args : List AV) (ts : List Nat) : Option (AV × St) := do
  let l ← lendAll L st 0 args ts
  if lentApart (l.map (·.2.2)) && readFree (l.map (·.2.2)) args then
    let (v, r) ← Γ f (st.tag + 1) (l.map (·.1)) (l.map (·.2.1))
    let st' ← giveBack st (l.map (·.2.2)) r
    some (adopt own st' d v)
  else none

def denOp (L : Nat → Option TI) (K : Ann) (Γ : Oracle) (st : St) (d ty : Nat) (op : Op) : Option (AV × St) :=
  match op with
  | .move x => some (operand st x, st)
  | .assign x =>
    match x, operand st x with
    | .const _, .nsl => if K.own.contains d then (slElem L ty).map fun e => let p := newBlk st d []; (.msl d p.1 e.size 0 0, p.2) else some (.nsl, st)
    | _, v => some (v, st)
  | .pick c a b => match operand st c with
    | .bool x => some (if x then operand st a else operand st b, st)
    | _ => none
  | .alloc e => do
    let i ← L e
    let p := newBlk st d i.zero
    some (.ref d p.1 0, p.2)
  | .box _ x => if (operand st x).solid then (let p := newBlk st d (operand st x).cells; some (.ref d p.1 0, p.2)) else none
  | .build t ps => do
    let i ← L t
    match i.desc with
    | .strct fs => do
      let cs ← fillA (fun k => do let (o, ty) ← fs[k]?; let j ← L ty; some (o, j.size)) i.zero (parts st ps)
      some (.agg cs, st)
    | .arr _ e => do
      let j ← L e
      let cs ← fillA (fun k => some (k * j.size, j.size)) i.zero (parts st ps)
      some (.agg cs, st)
    | _ => none
  | .buildSlice t n ps => do
    let e ← slElem L t
    if n * e.size ≤ 16777216 ∧ e.zero.length = e.size ∧ 0 < e.size then
      let cs ← fillA (fun k => some (k * e.size, e.size)) (repl n e.zero) (parts st ps)
      let p := newBlk st d cs
      some (.msl d p.1 e.size 0 n, p.2)
    else none
  | .load t a => if !okRead (aget d K.reads) (operand st a) then none else do
    let i ← L t
    let v ← aLoad i st (operand st a)
    some (v, st)
  | .store t a x => if !okStore (K.storeAt a) (operand st a) then none else do
    let i ← L t
    let st' ← aStore i st (operand st a) (operand st x)
    some (.tup [], st')
  | .nilCheck x => match operand st x with
    | .ref s g o => some (.ref s g o, st)
    | .ipt c => some (.ipt c, st)
    | _ => none
  | .binOp op t x y _ => (aBin L t op (operand st x) (operand st y)).map fun v => (v, st)
  | .unOp op _ x => (aUn op (operand st x)).map fun v => (v, st)
  | .convert s t x => do
    let i ← L s
    let j ← L t
    match i.desc, j.desc, operand st x with
    | .int _, .int k, .int _ n => some (.int k (k.wrap n), st)
    | .slice e, .str, v => if !okRead (aget d K.reads) v then none else do
      let ie ← L e
      match ie.desc with
      | .int .u8 => do
        let (_, cells) ← slCells st 1 v
        let xs ← u8s cells
        some (.str (strOfNums xs), st)
      | _ => none
    | _, _, _ => none
  | .makeSlice t len cap => do
    let e ← slElem L t
    match operand st len, operand st cap with
    | .int _ n, .int _ k =>
      if 0 ≤ n ∧ n ≤ k ∧ k.toNat * e.size ≤ 16777216 ∧ k.toNat * e.bytes ≤ 140737488355328 ∧ k ≤ 140737488355328 ∧ e.zero.length = e.size ∧ 0 < e.size then
        let p := newBlk st d (repl n.toNat e.zero)
        some (.msl d p.1 e.size 0 n.toNat, p.2)
      else none
    | _, _ => none
  | .fieldAddr s x f => do
    let (o, j) ← fieldOf L s f
    if j.size = 0 then none else
    match operand st x with
    | .ref s g k => some (.ref s g (k + o), st)
    | .ipt cells => some (.ipt (cells.drop o), st)
    | _ => none
  | .field s x f => do
    let (o, j) ← fieldOf L s f
    match operand st x with
    | .agg cs => do let v ← rdCells j cs o; some (v, st)
    | _ => none
  | .indexAddr t x ix => if !okRead (aget d K.reads) (operand st x) then none else do
    let i ← L t
    let k ← asInt? (operand st ix)
    match i.desc with
    | .arr n e => do
      let j ← L e
      if 0 ≤ k ∧ k < n then
        match operand st x with
        | .ref s g o => some (.ref s g (o + k.toNat * j.size), st)
        | .ipt cells => some (.ipt (cells.drop (k.toNat * j.size)), st)
        | _ => none
      else none
    | .slice e => do
      let j ← L e
      match operand st x with
      | .msl s g z o n => if z = j.size ∧ 0 ≤ k ∧ k < n ∧ (blkOf st s g).isSome then some (.ref s g (o + k.toNat * j.size), st) else none
      | .isl z n cells => if z = j.size ∧ 0 ≤ k ∧ k < n then some (.ipt (cells.drop (k.toNat * j.size)), st) else none
      | .fsl z n cells => if z = j.size ∧ 0 ≤ k ∧ k < n then some (.ipt (cells.drop (k.toNat * j.size)), st) else none
      | _ => none
    | _ => none
  | .index t x ix => do
    let i ← L t
    let k ← asInt? (operand st ix)
    match i.desc, operand st x with
    | .arr n e, .agg cs => do
      let j ← L e
      if 0 ≤ k ∧ k < n then do let v ← rdCells j cs (k.toNat * j.size); some (v, st) else none
    | .str, .str s => if 0 ≤ k then (s[k.toNat]?).map fun b => (.int .u8 b.toNat, st) else none
    | _, _ => none
  | .slice t x lo hi (some mx) => if !okRead (aget d K.reads) (operand st x) then none else do
    let i ← L t
    match i.desc with
    | .slice e => do
      let _ ← L e
      let n ← slLen (operand st x)
      let k ← asInt? (operand st mx)
      let h ← bnd (-1) (hi.map (operand st))
      let l ← bnd 0 (lo.map (operand st))
      if 0 ≤ l ∧ l = h ∧ h = k ∧ k ≤ n ∧ (operand st x).isStr = false then some (.nsl, st) else none
    | _ => none
  | .slice t x lo hi none => do
    if !okRead (aget d K.reads) (operand st x) then none else
    let i ← L t
    match i.desc with
    | .str => do let v ← aStrSlice (operand st x) (lo.map (operand st)) (hi.map (operand st)); some (v, st)
    | .slice e => do
      let j ← L e
      let v ← aSlice j.size (operand st x) (lo.map (operand st)) (hi.map (operand st))
      some (v, st)
    | .arr n e => do
      let j ← L e
      match operand st x with
      | .ref s g o => do
        let cells ← blkOf st s g
        if o + n * j.size ≤ cells.length then do let v ← aSlice j.size (.msl s g j.size o n) (lo.map (operand st)) (hi.map (operand st)); some (v, st) else none
      | _ => none
    | _ => none
  | .extract x k => match operand st x with
    | .tup vs => do let v ← vs[k]?; some (v, st)
    | _ => none
  | .makeFunc fn first captured => match fn with
    | .func f => if first.size = 0 then (if (captured.toList.map (operand st)).all AV.isRef then some (.fn f (captured.toList.map (operand st)), st) else none) else none
    | _ => none
  | .call c => match c.callee with
    | .builtin b => aBuiltin L st d b c.argTypes.toList (c.args.toList.map (operand st))
    | .value f => match operand st f with
      | .fn g captured => if !(c.args.toList.map (operand st) ++ captured).all (okRead (aget d K.reads)) then none else if K.ro.contains d then roCall L Γ st g (c.args.toList.map (operand st) ++ captured) c.argTypes.toList else aCall L (K.own.contains d) Γ st d g (c.args.toList.map (operand st) ++ captured) c.argTypes.toList
      | _ => none
    | .invoke .. => none
  | _ => none

/-- Is an operation carried out? (No answer: it isn't known.) -/
def runs (ops : List Oper) (st : St) (o : Oper) : Option Bool :=
  match o.guard with
  | none => some true
  | some (j, want) =>
    match (ops[j]?).bind (·.dst) with
    | some d => match aget d st.env with
      | some (.bool b) => some (b == want)
      | some (.tup []) => some false
      | _ => none
    | none => none

def putD (st : St) (d : Option Nat) (v : AV) : St :=
  match d with
  | some d => { st with env := aput d v st.env }
  | none => st

def denOper (L : Nat → Option TI) (K : Ann) (Γ : Oracle) (ops : List Oper) (o : Oper) (st : St) : Option St :=
  if o.dst.getD 0 < K.nt then
  match runs ops st o with
  | some true => (denOp L K Γ st (o.dst.getD 0) o.type o.op).map fun p => putD p.2 o.dst p.1
  | some false => some (putD st o.dst (.tup []))
  | none => none
  else none

def denOps (L : Nat → Option TI) (K : Ann) (Γ : Oracle) (ops : List Oper) : List Oper → St → Option St
  | [], st => some st
  | o :: l, st => (denOper L K Γ ops o st).bind (denOps L K Γ ops l)

/-- Behind a region only what is kept goes on. -/
def tidy (cross : List Nat) : List Oper → St → St
  | [], st => st
  | o :: l, st => tidy cross l (match o.dst with
    | some d => if cross.contains d then st else { st with env := adel d st.env }
    | none => st)

/-- At a loop's head only what lives goes on. -/
def trim (h : Option (Nat × List Nat × List Nat)) (st : St) : St :=
  match h with
  | some (_, slots, sites) => { st with
      env := slots.filterMap fun k => (aget k st.env).map (k, ·)
      heap := sites.filterMap fun k => (aget k st.heap).map (k, ·) }
  | none => st

def firstRegion : Code → Nat
  | .region id _ _ => id
  | .seq a _ => firstRegion a
  | .block _ a => firstRegion a
  | .loop a => firstRegion a
  | _ => 0

/-- Rounds of a loop. -/
def loopF (f : St → Option (Ex × St)) : Nat → St → Option (Ex × St)
  | 0, _ => none
  | n + 1, st => match f st with
    | some (.normal, st') => loopF f n st'
    | r => r

open Classical in
noncomputable def loopω (f : St → Option (Ex × St)) (st : St) : Option (Ex × St) :=
  if h : ∃ n, (loopF f n st).isSome then loopF f h.choose st else none

/-! ## regions that draw their order -/

def ptrFree (L : Nat → Option TI) (t : Nat) : Bool :=
  match L t with
  | some i => match i.desc with
    | .bool | .int _ | .str | .slice _ | .func => true
    | _ => false
  | none => false

/-- What an operation touches: the blocks that it reads, those that it writes (none: any), whether it makes a stamp. -/
structure FP where
  rd : Option (List Nat)
  wr : Option (List Nat)
  nx : Bool

def FP.no : FP := ⟨some [], some [], false⟩
def FP.all : FP := ⟨none, none, true⟩

def isFn : Operand → Bool
  | .func _ => true
  | _ => false

def fpOf (L : Nat → Option TI) (K : Ann) (d : Nat) (op : Op) : FP :=
  match op with
  | .convert s _ _ => match L s with
    | some i => match i.desc with
      | .slice _ => ⟨aget d K.reads, some [], false⟩
      | _ => .no
    | none => .no
  | .makeSlice .. => ⟨some [], some [d], true⟩
  | .move _ | .pick .. | .binOp .. | .unOp .. | .fieldAddr .. | .field .. | .index .. | .extract .. | .build .. | .nilCheck _ | .makeFunc .. => .no
  | .assign _ => if K.own.contains d then ⟨some [], some [d], true⟩ else .no
  | .alloc _ | .box .. | .buildSlice .. => ⟨some [], some [d], true⟩
  | .load .. | .indexAddr .. | .slice .. => ⟨aget d K.reads, some [], false⟩
  | .store _ a _ => match K.storeAt a with
    | some s => ⟨some [], some [s], false⟩
    | none => ⟨some [], none, false⟩
  | .call c => match c.callee with
    | .builtin .len | .builtin .min | .builtin .max => .no
    | .value f => if K.ro.contains d then ⟨aget d K.reads, some [], false⟩ else
      let free := isFn f && (c.args.size == c.argTypes.size && c.argTypes.toList.all (ptrFree L))
      ⟨aget d K.reads, if free then some (if K.own.contains d then [d] else []) else (aget d K.reads).map fun l => if K.own.contains d then d :: l else l, K.own.contains d⟩
    | _ => .all
  | _ => .all

def apartF : Option (List Nat) → Option (List Nat) → Bool
  | some [], _ => true
  | _, some [] => true
  | some l, some l' => l.all fun k => !l'.contains k
  | _, _ => false

/-- Two operations that may be turned round. -/
def turnOk (L : Nat → Option TI) (K : Ann) (ops : Array Oper) (x y : Oper) : Bool :=
  x.apart ops y &&
    (let p := fpOf L K (x.dst.getD 0) x.op
     let q := fpOf L K (y.dst.getD 0) y.op
     apartF p.rd q.wr && apartF p.wr q.rd && apartF p.wr q.wr && !(p.nx && q.nx))

/-- Those that an operation waits for. -/
def directs (o : Oper) : List Nat := o.after.toList.filterMap fun e => if Region.binds .any e then some e.on else none

def waits (ops : Array Oper) : Nat → Nat → List Nat
  | 0, i => match ops[i]? with
    | some o => directs o
    | none => []
  | n + 1, i => let l := waits ops n i
    (l ++ l.flatMap fun j => match ops[j]? with
      | some o => directs o
      | none => []).eraseDups

/-- All orders of the region do the same. -/
def drawOk (L : Nat → Option TI) (K : Ann) (ops : Array Oper) : Bool :=
  (List.range ops.size).all fun i => match ops[i]? with
    | none => false
    | some y => (directs y).all (· < i) && (let l := waits ops 12 i
      (List.range i).all fun j => match ops[j]? with
        | none => false
        | some x => l.contains j || turnOk L K ops x y)

def drawsOk (L : Nat → Option TI) (K : Ann) : Code → Bool
  | .region _ ops draw => !draw || drawOk L K ops
  | .seq a b => drawsOk L K a && drawsOk L K b
  | .cond _ a b => drawsOk L K a && drawsOk L K b
  | .block _ a => drawsOk L K a
  | .loop a => drawsOk L K a
  | _ => true

def den (lp : (St → Option (Ex × St)) → St → Option (Ex × St)) (L : Nat → Option TI) (K : Ann) (Γ : Oracle) : Code → St → Option (Ex × St)
  | .skip, st => some (.normal, st)
  | .region _ ops _, st => (denOps L K Γ ops.toList ops.toList st).map fun st' => (.normal, tidy K.cross ops.toList st')
  | .seq a b, st => match den lp L K Γ a st with
    | some (.normal, st') => den lp L K Γ b st'
    | r => r
  | .cond c a b, st => match operand st c with
    | .bool x => if x then den lp L K Γ a st else den lp L K Γ b st
    | _ => none
  | .block id a, st => match den lp L K Γ a st with
    | some (.exit j, st') => if j = id then some (.normal, st') else some (.exit j, st')
    | r => r
  | .loop a, st => lp (fun s => den lp L K Γ a (trim (K.heads.find? (·.1 == firstRegion a)) s)) st
  | .exit id, st => some (.exit id, st)
  | .ret, st => some (.ret, st)
  | _, _ => none

/-! ## functions -/

/-- A function as the interpreter has it: its code, how many parameters (what it captures among them), the results' slots, what is added; at which places of a struct that is a result a slice may stand. -/
structure AFn where
  body : Code
  np : Nat
  results : List ResultVar
  ann : Ann
  frz : List Nat

/-- A function of the table: interpreted, or answered by a law of its own. -/
inductive Entry where
  | code (a : AFn)
  | law (o : Nat → List AV → List (Option (List AV)) → Option (AV × List (Option (List AV))))

def argEnv : Nat → List AV → List (Nat × AV)
  | _, [] => []
  | k, v :: vs => (k, v) :: argEnv (k + 1) vs

def lentHeap (tag : Nat) : Nat → List (Option (List AV)) → List (Nat × Blk)
  | _, [] => []
  | k, none :: l => lentHeap tag (k + 1) l
  | k, some cells :: l => (k, ⟨(tag, 0), cells⟩) :: lentHeap tag (k + 1) l

/-- What was lent, as it is now. -/
def lentOut (st : St) : Nat → List (Option (List AV)) → Option (List (Option (List AV)))
  | _, [] => some []
  | k, none :: l => (lentOut st (k + 1) l).map (none :: ·)
  | k, some old :: l => do
    let cells ← blkOf st k (st.tag, 0)
    let r ← lentOut st (k + 1) l
    if cells.length = old.length ∧ cells.all AV.plain then some (some cells :: r) else none

def getRes (L : Nat → Option TI) (st : St) : ResultVar → Option AV
  | .tmp k => some ((aget k st.env).getD .junk)
  | .cell k t => (L t).bind fun i => aLoad i st ((aget k st.env).getD .junk)

def getAll (L : Nat → Option TI) (st : St) : List ResultVar → Option (List AV)
  | [] => some []
  | k :: ks => (getRes L st k).bind fun v => (getAll L st ks).map (v :: ·)

def oneOrTup : List AV → AV
  | [v] => v
  | vs => .tup vs

def runFn (lp : (St → Option (Ex × St)) → St → Option (Ex × St)) (L : Nat → Option TI) (a : AFn) (Γ : Oracle) (tag : Nat) (args : List AV) (lent : List (Option (List AV))) :
    Option (AV × List (Option (List AV))) :=
  if args.length = a.np ∧ lent.length = a.np then
    match den lp L a.ann Γ a.body { env := argEnv 0 args, heap := lentHeap tag 0 lent, next := 1, tag } with
    | some (.exit _, _) | none => none
    | some (_, st) => do
      let gs ← getAll L st a.results
      let (vs, _) ← freezeAll a.np a.frz st gs
      let r ← lentOut st 0 lent
      some (oneOrTup vs, r)
  else none

def callN (lp : (St → Option (Ex × St)) → St → Option (Ex × St)) (L : Nat → Option TI) (T : Nat → Option Entry) : Nat → Oracle
  | 0 => fun _ _ _ _ => none
  | n + 1 => fun f tag args lent =>
    match T f with
    | none => none
    | some (.law o) => o tag args lent
    | some (.code a) => runFn lp L a (callN lp L T n) tag args lent

open Classical in
noncomputable def callω (L : Nat → Option TI) (T : Nat → Option Entry) : Oracle := fun f tag args lent =>
  if h : ∃ n, (callN loopω L T n f tag args lent).isSome then callN loopω L T h.choose f tag args lent else none

end Go.Sim
