/- Part of the proof: an interpreter of the model, proved sound, and what it makes of the functions. -/
import Derived.WalkKit
import Derived.Laws.BytesArg
import Derived.Laws.MakeOwn
import Derived.LaidEql
import Derived.Laws.StructEq
import Derived.ChangeKeysEq
set_option linter.unusedVariables false
set_option linter.unusedSimpArgs false
section
namespace Go.Sim
theorem qO1 {α : Type} {a b : α} : (some a = some b) = (a = b) := Option.some.injEq a b
theorem qO2 {α β : Type} (x : α) (f : α → Option β) : (some x).bind f = f x := rfl
theorem qO3 {α β : Type} : (@bind Option _ α β) = Option.bind := rfl
theorem qO4 {α β : Type} {a c : α} {b d : β} : ((a, b) = (c, d)) = (a = c ∧ b = d) := Prod.mk.injEq a b c d
theorem qO5 (a b : Bool) : ((a && b) = true) = (a = true ∧ b = true) := Bool.and_eq_true a b
theorem qO6 {α β : Type} {o : Option α} {f : α → Option β} {b : β} : o.bind f = some b ↔ ∃ a, o = some a ∧ f a = some b := Option.bind_eq_some_iff
structure YInfo where
  num : Nat
  ps : List Nat
  assign : Code
  body : Code
  slots : List Nat
  nt : Nat
  deriving Inhabited
inductive AV where
  | junk
  | bool (b : Bool)
  | int (k : IntKind) (n : Int)
  | str (s : ByteArray)
  | nilp
  | ref (site : Nat) (stamp : Nat × Nat) (off : Nat)
  | msl (site : Nat) (stamp : Nat × Nat) (sz off len : Nat)
  | isl (sz len : Nat) (cells : List AV)
  | fsl (sz len : Nat) (cells : List AV)
  | nsl
  | ipt (cells : List AV)
  | agg (cells : List AV)
  | tup (vs : List AV)
  | nilI
  | nilF
  | fn (f : Nat) (captured : List AV)
  | mref (site : Nat) (stamp : Nat × Nat)
  | nilM
  | mapd (ks vs : List AV)
  | gref (g : Nat)
  | err (g : Nat)
  | yld (y : YInfo) (captured : List AV)
  | imp (ks vs : List AV)
  | veil (t : Nat) (v : AV)
  deriving Inhabited
inductive TD where
  | bool | int (k : IntKind) | str | ptr (e : Nat) | slice (e : Nat) | arr (n e : Nat) | strct (fs : List (Nat × Nat)) | func | map (k e : Nat) | iface | opq | other
  deriving Inhabited
structure TI where
  desc : TD
  size : Nat
  bytes : Nat
  zero : List AV
  deriving Inhabited
def TI.isAgg (i : TI) : Bool := match i.desc with | .arr .. | .strct _ | .opq => true | _ => false
def TI.zeroAV (i : TI) : AV := if i.isAgg then .agg i.zero else i.zero.headD .junk
structure Blk where
  stamp : Nat × Nat
  cells : List AV
  deriving Inhabited
structure St where
  env : List (Nat × AV)
  heap : List (Nat × Blk)
  next : Nat
  tag : Nat
  deriving Inhabited
structure Ann where
  nt : Nat
  cross : List Nat
  heads : List (Nat × List Nat × List Nat)
  own : List Nat
  reads : List (Nat × List Nat)
  stores : List (Nat × Nat)
  ro : List Nat
  hp : List Nat
  ys : List (Nat × YInfo) := []
  win : List Nat := []
  hide : List (Nat × Nat × List (Nat × List Nat)) := []
  mat : List (Nat × Nat × Nat × Nat) := []
inductive Ex where
  | normal | exit (id : Nat) | ret
def aget {α : Type} (k : Nat) : List (Nat × α) → Option α
  | [] => none
  | (j, v) :: l => if j = k then some v else aget k l
def Ann.storeAt (K : Ann) : Operand → Option Nat
  | .tmp t => aget t K.stores
  | _ => none
def aput {α : Type} (k : Nat) (v : α) : List (Nat × α) → List (Nat × α)
  | [] => [(k, v)]
  | (j, u) :: l => if j = k then (k, v) :: l else (j, u) :: aput k v l
def adel {α : Type} (k : Nat) : List (Nat × α) → List (Nat × α)
  | [] => []
  | (j, u) :: l => if j = k then adel k l else (j, u) :: adel k l
def ofScalar : Value → AV
  | .bool b => .bool b
  | .int k n => .int k n
  | .string s => .str s
  | .pointer none => .nilp
  | .slice none 0 0 => .nsl
  | .nilIface => .nilI
  | .nilFunc => .nilF
  | .map none => .nilM
  | _ => .junk
def ofCells : List Value → Option (List AV)
  | [] => some []
  | v :: l => match ofScalar v with
    | .junk => none
    | x => (ofCells l).map (x :: ·)
def ofConst : Value → AV
  | .agg cs => match ofCells cs.toList with
    | some l => .agg l
    | none => .junk
  | .tuple vs => .tup (vs.toList.map ofScalar)
  | v => ofScalar v
def AV.cells : AV → List AV
  | .agg cs => cs
  | .fsl z n cs => [.isl z n cs]
  | v => [v]
def operand (st : St) : Operand → AV
  | .tmp t => (aget t st.env).getD .junk
  | .const v => ofConst v
  | .func f => .fn f []
  | .global g => .gref g
def rdCells (i : TI) (cells : List AV) (o : Nat) : Option AV :=
  if i.isAgg then (if o + i.size ≤ cells.length then some (.agg ((cells.drop o).take i.size)) else none) else cells[o]?
def setR (cells : List AV) (o : Nat) (vs : List AV) : List AV := cells.take o ++ vs ++ cells.drop (o + vs.length)
def AV.isRef : AV → Bool
  | .ref _ _ _ => true
  | _ => false
def AV.solid : AV → Bool
  | .junk | .tup _ | .mapd _ _ | .yld _ _ => false
  | _ => true
def owner : Nat → Nat → Nat
  | 0, k => k
  | n + 1, k => if Nat.ble 1000000 k then owner n (k / 1000000 - 1) else k
def grp (k : Nat) : Nat := owner 20 k % 500000
def below : Nat → Nat → Nat → Bool
  | 0, _, _ => false
  | n + 1, x, k => match Nat.beq k x with
    | true => true
    | false => match Nat.ble 1000000 k with
      | true => below n x (k / 1000000 - 1)
      | false => false
def hits (k a : Nat) : Bool := match Nat.beq (a % 3) 0, Nat.beq (a % 3) 1 with
  | true, _ => Nat.beq (grp k) (a / 3)
  | false, true => Nat.beq k (a / 3)
  | false, false => Nat.beq (grp k) (grp (a / 3)) && below 20 (a / 3) k
def okKey (rd : Option (List Nat)) (k : Nat) : Bool := match rd with
  | none => true
  | some l => l.any (hits k)
def okRead : Option (List Nat) → AV → Bool
  | some l, .ref s _ _ => l.any (hits s)
  | some l, .msl s _ _ _ _ => l.any (hits s)
  | _, _ => true
def okMap (rd : Option (List Nat)) : AV → Bool
  | .mref s _ => okKey rd s
  | _ => true
def okStore : Option Nat → AV → Bool
  | some s, .ref s' _ _ => s == s'
  | some _, _ => false
  | none, _ => true
def AV.top : AV → Bool
  | .fsl _ _ _ | .tup _ | .mapd _ _ | .yld _ _ => false
  | _ => true
def AV.cap : AV → Bool
  | .bool _ | .int .. | .str _ | .nilp | .ref .. | .msl .. | .isl .. | .nsl | .ipt _ | .nilI | .nilF | .nilM | .fn .. | .mref .. | .gref _ | .err _ | .imp .. | .veil .. => true
  | _ => false
def AV.calm : AV → Bool
  | .yld _ _ => false
  | .tup vs => vs.all AV.top
  | _ => true
def AV.plain : AV → Bool
  | .bool _ | .int .. | .str _ | .nilp | .nsl | .nilI | .nilF | .nilM => true
  | _ => false
def aShift (op : BinOp) (k : IntKind) (x y : Int) : Option AV :=
  if y < 0 then none else
  match op with
  | .shl => some (.int k (k.wrap (x * 2 ^ min y.toNat k.bits)))
  | .shr => some (.int k (x.fdiv (2 ^ min y.toNat k.bits)))
  | _ => none
def aInt (op : BinOp) (k : IntKind) (x y : Int) : Option AV :=
  match op with
  | .add => some (.int k (k.wrap (x + y)))
  | .sub => some (.int k (k.wrap (x - y)))
  | .mul => some (.int k (k.wrap (x * y)))
  | .quo => if y = 0 then none else some (.int k (k.wrap (x.tdiv y)))
  | .rem => if y = 0 then none else some (.int k (x.tmod y))
  | .and => some (.int k (k.wrap (BitVec.ofInt k.bits x &&& BitVec.ofInt k.bits y).toNat))
  | .or => some (.int k (k.wrap (BitVec.ofInt k.bits x ||| BitVec.ofInt k.bits y).toNat))
  | .xor => some (.int k (k.wrap (BitVec.ofInt k.bits x ^^^ BitVec.ofInt k.bits y).toNat))
  | .andNot => some (.int k (k.wrap (BitVec.ofInt k.bits x &&& ~~~ BitVec.ofInt k.bits y).toNat))
  | .eql => some (.bool (x == y))
  | .neq => some (.bool (x != y))
  | .lss => some (.bool (x < y))
  | .leq => some (.bool (x ≤ y))
  | .gtr => some (.bool (x > y))
  | .geq => some (.bool (x ≥ y))
  | _ => none
def eqFs (L : Nat → Option TI) (f : Nat → AV → AV → Option Bool) (xs ys : List AV) : List (Nat × Nat) → Option Bool
  | [] => some true
  | (o, ty) :: fs => match L ty with
    | none => none
    | some j => match rdCells j xs o, rdCells j ys o with
      | some a, some b => match f ty a b with
        | some true => eqFs L f xs ys fs
        | r => r
      | _, _ => none
def eqEs (j : TI) (f : AV → AV → Option Bool) (xs ys : List AV) : List Nat → Option Bool
  | [] => some true
  | k :: ks => match rdCells j xs (k * j.size), rdCells j ys (k * j.size) with
    | some a, some b => match f a b with
      | some true => eqEs j f xs ys ks
      | r => r
    | _, _ => none
def eqT (L : Nat → Option TI) : Nat → Nat → AV → AV → Option Bool
  | 0, _, _, _ => none
  | d + 1, t, x, y => match L t with
    | none => none
    | some i => match i.desc, x, y with
      | .bool, .bool a, .bool b => some (a == b)
      | .int _, .int k a, .int k' b => if k = k' then some (a == b) else none
      | .str, .str a, .str b => some (a.toList == b.toList)
      | .strct fs, .agg xs, .agg ys => eqFs L (eqT L d) xs ys fs
      | .arr n e, .agg xs, .agg ys => match L e with
        | some j => eqEs j (eqT L d e) xs ys (List.range n)
        | none => none
      | _, _, _ => none
def aBin (L : Nat → Option TI) (t : Nat) (op : BinOp) (x y : AV) : Option AV :=
  match x, y with
  | .int k a, .int k' b =>
    match op with
    | .shl | .shr => aShift op k a b
    | _ => if k = k' then aInt op k a b else none
  | .bool a, .bool b =>
    match L t with
    | some ⟨.bool, _, _, _⟩ =>
      match op with
      | .eql => some (.bool (a == b))
      | .neq => some (.bool (!(a == b)))
      | _ => none
    | _ => none
  | .str a, .str b =>
    match op with
    | .eql => some (.bool (a.toList == b.toList))
    | .neq => some (.bool (!(a.toList == b.toList)))
    | .add => if a.size + b.size ≤ 9223372036854775807 then some (.str (a ++ b)) else none
    | _ => none
  | .agg xs, .agg ys =>
    match op with
    | .eql => (eqT L 20 t (.agg xs) (.agg ys)).map .bool
    | .neq => (eqT L 20 t (.agg xs) (.agg ys)).map fun b => .bool (!b)
    | _ => none
  | _, _ => none
def nilCmp (c : Bool) : AV → AV → Option (Bool × Bool)
  | .nilp, .nilp => some (false, true)
  | .ref _ _ _, .nilp | .ipt _, .nilp | .nilp, .ref _ _ _ | .nilp, .ipt _ => some (false, false)
  | .nilI, .nilI => if c then some (true, true) else none
  | .err _, .nilI | .nilI, .err _ => some (true, false)
  | .err g, .err g' => some (true, decide (g = g'))
  | _, _ => none
def nilOp (L : Nat → Option TI) (t : Nat) (op : BinOp) (i b : Bool) : Option AV :=
  match L t with
  | some j => match j.desc, i, op with
    | .ptr _, false, .eql | .iface, true, .eql => some (.bool b)
    | .ptr _, false, .neq | .iface, true, .neq => some (.bool (!b))
    | _, _, _ => none
  | none => none
def aBinN (L : Nat → Option TI) (t : Nat) (op : BinOp) (c : Bool) (x y : AV) : Option AV :=
  match nilCmp c x y with
  | some (i, b) => nilOp L t op i b
  | none => aBin L t op x y
def isConstO : Operand → Bool
  | .const _ => true
  | _ => false
def aUn (op : UnOp) (x : AV) : Option AV :=
  match op, x with
  | .neg, .int k n => aInt .sub k 0 n
  | .xor, .int k n => aInt .xor k (if k.signed then -1 else k.max) n
  | .not, .bool b => some (.bool (!b))
  | _, _ => none
def aAsT (L : Nat → Option TI) (t : Nat) (ok : Bool) : Option AV := match ok, L t with
  | true, some i => match i.desc with
    | .ptr e => match L e with
      | some j => if Nat.beq j.size 1 then none else some (.tup [i.zeroAV, .bool false])
      | none => none
    | _ => none
  | _, _ => none
def aAs (L : Nat → Option TI) (t : Nat) (ok : Bool) : AV → Option AV
  | .err _ | .nilI => aAsT L t ok
  | _ => none
def u8s : List AV → Option (List Int)
  | [] => some []
  | .int .u8 n :: l => (u8s l).map (n :: ·)
  | _ => none
def AV.isStr : AV → Bool
  | .str _ => true
  | _ => false
def isMapKey (k : Nat) : Bool := Nat.ble 500000 (k % 1000000)
def blkOf (st : St) (site : Nat) (stamp : Nat × Nat) : Option (List AV) :=
  if isMapKey site then none else
  match aget site st.heap with
  | some b => if b.stamp = stamp then some b.cells else none
  | none => none
def mapOf (st : St) (site : Nat) (stamp : Nat × Nat) : Option (List AV × List AV) :=
  if isMapKey site then
    match aget site st.heap with
    | some b => if b.stamp = stamp then (match b.cells with | [.mapd ks vs] => some (ks, vs) | _ => none) else none
    | none => none
  else none
def newBlk (st : St) (site : Nat) (cells : List AV) : (Nat × Nat) × St :=
  ((st.tag, st.next), { st with heap := aput site ⟨(st.tag, st.next), cells⟩ st.heap, next := st.next + 1 })
def putCells (st : St) (site : Nat) (cells : List AV) : St :=
  match aget site st.heap with
  | some b => { st with heap := aput site { b with cells } st.heap }
  | none => st
def aLoad (i : TI) (st : St) : AV → Option AV
  | .ref s g o => (blkOf st s g).bind fun cells => rdCells i cells o
  | .ipt cells => rdCells i cells 0
  | _ => none
def TI.isErr (i : TI) : Bool := match i.desc with | .iface => i.size == 1 | _ => false
def matOne (vs : List AV) (st : St) (x : Nat × Nat × Nat × Nat) : St :=
  match vs[x.1]? with
  | some (.ref k _ o) => match aget k st.heap with
    | some b => match b.cells[o + x.2.1]? with
      | some .nsl => if Nat.beq x.2.2.2 k || isMapKey k || isMapKey x.2.2.2 then st else
        putCells (newBlk st x.2.2.2 []).2 k (b.cells.set (o + x.2.1) (.msl x.2.2.2 (st.tag, st.next) x.2.2.1 0 0))
      | _ => st
    | none => st
  | _ => st
def matAll (vs : List AV) : List (Nat × Nat × Nat × Nat) → St → St
  | [], st => st
  | x :: l, st => matAll vs l (matOne vs st x)
def gLoad (rd : List (Nat × List Nat)) (i : TI) (st : St) : AV → Option AV
  | .gref g => if (aget (1000000000 + g) rd).isSome && i.isErr then some (.err g) else none
  | v => aLoad i st v
def aStore (i : TI) (st : St) (addr v : AV) : Option St :=
  match addr with
  | .ref s g o => (blkOf st s g).bind fun cells =>
    if v.solid ∧ v.cells.length = i.size ∧ o + i.size ≤ cells.length then some (putCells st s (setR cells o v.cells)) else none
  | _ => none
def slCells (st : St) (sz : Nat) : AV → Option (Nat × List AV)
  | .msl s g z o n => if z = sz then (blkOf st s g).bind fun cells => if o + n * sz ≤ cells.length then some (n, (cells.drop o).take (n * sz)) else none else none
  | .isl z n cells | .fsl z n cells => if z = sz ∧ cells.length = n * sz then some (n, cells) else none
  | .nsl => some (0, [])
  | _ => none
def slLen : AV → Option Nat
  | .msl _ _ _ _ n | .isl _ n _ | .fsl _ n _ => some n
  | .nsl => some 0
  | .str s => some s.size
  | _ => none
def asInt? : AV → Option Int
  | .int _ n => some n
  | _ => none
def bnd (d : Int) : Option AV → Option Int
  | some v => asInt? v
  | none => some d
def cutA (sz l h : Nat) (av : AV) : Option AV :=
  match av with
  | .msl k g z o _ => if z = sz then some (.msl k g z (o + l * sz) (h - l)) else none
  | .isl z n cells => if z = sz ∧ cells.length = n * sz then some (.isl z (h - l) ((cells.drop (l * sz)).take ((h - l) * sz))) else none
  | .fsl z n cells => if z = sz ∧ cells.length = n * sz then some (.isl z (h - l) ((cells.drop (l * sz)).take ((h - l) * sz))) else none
  | .nsl => some .nsl
  | _ => none
def aSlice (sz : Nat) (x : AV) (lo hi : Option AV) : Option AV := do
  let n ← slLen x
  let h ← bnd n hi
  let l ← bnd 0 lo
  if 0 ≤ l ∧ l ≤ h ∧ h ≤ n then cutA sz l.toNat h.toNat x else none
def aStrSlice (x : AV) (lo hi : Option AV) : Option AV := do
  match x with
  | .str s =>
    let h ← bnd s.size hi
    let l ← bnd 0 lo
    if 0 ≤ l ∧ l ≤ h ∧ h ≤ s.size then some (.str (s.extract l.toNat h.toNat)) else none
  | _ => none
def aAppend (sz bytes : Nat) (st : St) (d : Nat) (s x : AV) : Option (AV × St) := do
  let (n, new) ← slCells st sz x
  match s with
  | .nsl => if 0 < bytes ∧ 0 < sz ∧ n * bytes ≤ 140737488355328 then (let p := newBlk st d new; some (.msl d p.1 sz 0 n, p.2)) else none
  | .msl site g z o m =>
    let cells ← blkOf st site g
    if z = sz ∧ 0 < bytes ∧ 0 < sz ∧ o + m * sz = cells.length ∧ (m + n) * bytes ≤ 140737488355328 then
      let p := newBlk st site (cells.drop o ++ new)
      some (.msl site p.1 sz 0 (m + n), p.2)
    else none
  | _ => none
def fillA (place : Nat → Option (Nat × Nat)) (cells : List AV) : List (Nat × AV) → Option (List AV)
  | [] => some cells
  | (i, v) :: rest =>
    match place i with
    | none => none
    | some (off, size) => if v.solid ∧ v.cells.length = size ∧ off + size ≤ cells.length then fillA place (setR cells off v.cells) rest else none
def repl (n : Nat) (z : List AV) : List AV := (List.replicate n z).flatten
abbrev Oracle := Nat → Nat → List AV → List (Option (List AV)) → Option (AV × List (Option (List AV)))
def lendSize (L : Nat → Option TI) (n : Nat) : Option Nat → Option Nat
  | none => some n
  | some t => do
    let i ← L t
    match i.desc with
    | .ptr e => do
      let ie ← L e
      some ie.size
    | .strct _ | .arr _ _ => some i.size
    | _ => none
def lend (L : Nat → Option TI) (st : St) (j : Nat) (v : AV) (t : Option Nat) : Option (AV × Option (List AV) × Option (Nat × Nat × Nat)) :=
  match v with
  | .ref s g o => do
    let cells ← blkOf st s g
    let n ← lendSize L (cells.length - o) t
    if o + n ≤ cells.length then some (.ref j (st.tag + 1, 0) 0, some ((cells.drop o).take n), some (s, o, n)) else none
  | .msl s g z o n => do
    let cells ← blkOf st s g
    if o + n * z ≤ cells.length then some (.isl z n ((cells.drop o).take (n * z)), none, none) else none
  | .fsl z n cells => some (.isl z n cells, none, none)
  | .tup _ => none
  | .mapd _ _ => none
  | .yld _ _ => none
  | v => some (v, none, none)
def lendAll (L : Nat → Option TI) (st : St) : Nat → List AV → List Nat → Option (List (AV × Option (List AV) × Option (Nat × Nat × Nat)))
  | _, [], _ => some []
  | j, v :: vs, ts => do
    let x ← lend L st j v ts.head?
    let xs ← lendAll L st (j + 1) vs (ts.drop 1)
    some (x :: xs)
def lentFree (s : Nat) : List (Option (Nat × Nat × Nat)) → Bool
  | [] => true
  | none :: l => lentFree s l
  | some (s', _, _) :: l => s' != s && lentFree s l
def lentApart : List (Option (Nat × Nat × Nat)) → Bool
  | [] => true
  | none :: l => lentApart l
  | some (s, _, _) :: l => lentFree s l && lentApart l
def readFree (l : List (Option (Nat × Nat × Nat))) : List AV → Bool
  | [] => true
  | .msl s _ _ _ _ :: vs => lentFree s l && readFree l vs
  | _ :: vs => readFree l vs
def giveBack (st : St) : List (Option (Nat × Nat × Nat)) → List (Option (List AV)) → Option St
  | [], [] => some st
  | none :: l, none :: r => giveBack st l r
  | some (s, o, n) :: l, some cells :: r =>
    match aget s st.heap with
    | some b => if cells.length = n then giveBack (putCells st s (setR b.cells o cells)) l r else none
    | none => none
  | _, _ => none
def adopt (own : Bool) (st : St) (d : Nat) (v : AV) : AV × St :=
  if own then
    match v with
    | .fsl z n cells => let p := newBlk st d cells; (.msl d p.1 z 0 n, p.2)
    | v => (v, st)
  else (v, st)
def freezeSl (np : Nat) (st : St) : AV → Option (Nat × Nat × List AV × Nat)
  | .msl s g z o n => do
    let cells ← blkOf st s g
    if np ≤ s ∧ s < 1000000 ∧ o = 0 ∧ 0 < z ∧ cells.length = n * z ∧ cells.all AV.plain then some (z, n, cells, s) else none
  | _ => none
def freezeAgg (np : Nat) (st : St) : List Nat → Nat → List AV → Option (List AV × List Nat)
  | [], _, cs => if cs.all AV.plain then some (cs, []) else none
  | p :: ps, k, cs => do
    let c ← cs[p - k]?
    match c with
    | .nsl => do
      let (r, ss) ← freezeAgg np st ps (p + 1) (cs.drop (p - k + 1))
      if (cs.take (p - k)).all AV.plain then some (cs.take (p - k) ++ .nsl :: r, ss) else none
    | c => do
      let (z, n, cells, s) ← freezeSl np st c
      let (r, ss) ← freezeAgg np st ps (p + 1) (cs.drop (p - k + 1))
      if (cs.take (p - k)).all AV.plain ∧ !ss.contains s then some (cs.take (p - k) ++ .isl z n cells :: r, s :: ss) else none
def passed : Nat := 1000000007
def freezeOne (np : Nat) (ps : List Nat) (st : St) (v : AV) : Option (AV × List Nat) :=
  match v with
  | .agg cs => (freezeAgg np st ps 0 cs).map fun p => (.agg p.1, p.2)
  | .msl s g z o n => (freezeSl np st (.msl s g z o n)).map fun p => (.fsl p.1 p.2.1 p.2.2.1, [p.2.2.2])
  | .fsl z n cells => some (.fsl z n cells, [passed])
  | .err g => some (.err g, [])
  | v => if v.plain then some (v, []) else none
def freezeAll (np : Nat) (ps : List Nat) (st : St) : List AV → Option (List AV × List Nat)
  | [] => some ([], [])
  | v :: vs => do
    let (x, s) ← freezeOne np ps st v
    let (xs, ss) ← freezeAll np ps st vs
    if s.all (fun k => !ss.contains k) then some (x :: xs, s ++ ss) else none
def keyInts : List AV → List AV → Option Bool
  | [], [] => some true
  | .int k a :: xs, .int k' b :: ys => if k = k' then (keyInts xs ys).map fun r => decide (a = b) && r else none
  | _, _ => none
def allInts (L : Nat → Option TI) : List (Nat × Nat) → Bool
  | [] => true
  | (_, t) :: fs => match L t with
    | some ⟨.int _, _, _, _⟩ => allInts L fs
    | _ => false
def keyEq (L : Nat → Option TI) : TD → AV → AV → Option Bool
  | .int kd, .int k a, .int k' b => if k = kd ∧ k = k' then some (a == b) else none
  | .str, .str a, .str b => some (a == b)
  | .bool, .bool a, .bool b => some (a == b)
  | .strct fs, .agg xs, .agg ys => match allInts L fs, keyInts xs ys with
    | true, some b => if eqFs L (eqT L 5) xs ys fs = some b then some b else none
    | _, _ => none
  | _, _, _ => none
def mfind (L : Nat → Option TI) (t : TD) (k : AV) : List AV → List AV → Option (Option AV)
  | [], [] => some none
  | k' :: ks, v :: vs => match keyEq L t k k' with
    | some true => some (some v)
    | some false => mfind L t k ks vs
    | none => none
  | _, _ => none
def mput (L : Nat → Option TI) (t : TD) (k v : AV) : List AV → List AV → Option (List AV × List AV)
  | [], [] => some ([k], [v])
  | k' :: ks, u :: vs => match keyEq L t k k' with
    | some true => some (k :: ks, v :: vs)
    | some false => (mput L t k v ks vs).map fun p => (k' :: p.1, u :: p.2)
    | none => none
  | _, _ => none
def mdel (L : Nat → Option TI) (t : TD) (k : AV) : List AV → List AV → Option (List AV × List AV)
  | [], [] => some ([], [])
  | k' :: ks, u :: vs => match keyEq L t k k' with
    | some true => some (ks, vs)
    | some false => (mdel L t k ks vs).map fun p => (k' :: p.1, u :: p.2)
    | none => none
  | _, _ => none
def mapTy (L : Nat → Option TI) (t : Nat) : Option (TD × Nat) := do
  let i ← L t
  match i.desc with
  | .map k e => do
    let j ← L k
    some (j.desc, e)
  | _ => none
def mapArg (st : St) : AV → Option (List AV × List AV)
  | .mref s g => mapOf st s g
  | .imp ks vs => some (ks, vs)
  | .nilM => some ([], [])
  | _ => none
def mlook (L : Nat → Option TI) (t : TD) (z : AV) (k : AV) (ks vs : List AV) : Option (AV × Bool) := match keyEq L t k k with
  | some true => (mfind L t k ks vs).map fun r => match r with
    | some v => (v, true)
    | none => (z, false)
  | _ => none
def fieldOf (L : Nat → Option TI) (s f : Nat) : Option (Nat × TI) := do
  let i ← L s
  match i.desc with
  | .strct fs => do
    let (o, t) ← fs[f]?
    let j ← L t
    some (o, j)
  | _ => none
def slElem (L : Nat → Option TI) (t : Nat) : Option TI := do
  let i ← L t
  match i.desc with
  | .slice e => L e
  | _ => none
def parts (st : St) (ps : Array (Nat × Operand)) : List (Nat × AV) := ps.toList.map fun p => (p.1, operand st p.2)
def aBuiltin (L : Nat → Option TI) (st : St) (d : Nat) (b : Builtin) (ts : List Nat) (args : List AV) : Option (AV × St) :=
  match b, ts, args with
  | .len, t :: _, [x] => do
    let i ← L t
    match i.desc with
    | .str => match x with | .str s => some (.int .i64 s.size, st) | _ => none
    | .slice _ => match x with | .str _ => none | x => (slLen x).map fun n => (.int .i64 n, st)
    | .arr n _ => some (.int .i64 n, st)
    | _ => none
  | .append, t :: t' :: _, [s, x] => do
    let e ← slElem L t
    if t' = t ∧ e.zero.length = e.size then aAppend e.size e.bytes st d s x else none
  | .copy, t :: t' :: _, [.msl s g z o m, x] => do
    let e ← slElem L t
    let _ ← slElem L t'
    let (n, new) ← slCells st e.size x
    let cells ← blkOf st s g
    if z = e.size ∧ o + m * z ≤ cells.length then
      some (.int .i64 (min n m : Nat), putCells st s (setR cells o (new.take (min n m * z))))
    else none
  | .clear, t :: _, [.msl s g z o m] => do
    let e ← slElem L t
    let cells ← blkOf st s g
    if z = e.size ∧ o + m * z ≤ cells.length ∧ e.zero.length = z ∧ 0 < z then
      some (.tup [], putCells st s (setR cells o (repl m e.zero)))
    else none
  | .delete, t :: _, [.mref s g, k] => do
    let (kt, _) ← mapTy L t
    let (ks, vs) ← mapOf st s g
    if keyEq L kt k k = some true then do
      let (ks', vs') ← mdel L kt k ks vs
      some (.tup [], putCells st s [.mapd ks' vs'])
    else none
  | .min, _, [.int k x, .int _ y] => some (.int k (if y < x then y else x), st)
  | .max, _, [.int k x, .int _ y] => some (.int k (if y > x then y else x), st)
  | _, _, _ => none
def sameP : AV → AV → Bool
  | .bool a, .bool b => a == b
  | .int k a, .int k' b => decide (k = k') && decide (a = b)
  | .str a, .str b => decide (a.data.toList = b.data.toList)
  | .nilp, .nilp => true
  | .nsl, .nsl => true
  | .nilI, .nilI => true
  | .nilF, .nilF => true
  | .nilM, .nilM => true
  | _, _ => false
theorem sameP_ok {a b : AV} (h : sameP a b = true) : a = b := by
  cases a <;> cases b <;> simp_all [sameP]
  rename_i x y
  obtain ⟨⟨x⟩⟩ := x
  obtain ⟨⟨y⟩⟩ := y
  simp_all
def samePs : List AV → List AV → Bool
  | [], [] => true
  | a :: as, b :: bs => sameP a b && samePs as bs
  | _, _ => false
theorem zit : ∀ {a b : List AV}, samePs a b = true → a = b
  | [], [], _ => rfl
  | a :: as, b :: bs, h => by
    simp only [samePs, qO5] at h
    rw [sameP_ok h.1, zit h.2]
  | [], _ :: _, h => by cases h
  | _ :: _, [], h => by cases h
def lentSame : List (Option (List AV)) → List (Option (List AV)) → Bool
  | [], [] => true
  | none :: l, none :: r => lentSame l r
  | some a :: l, some b :: r => samePs a b && lentSame l r
  | _, _ => false
def roCall (L : Nat → Option TI) (Γ : Oracle) (st : St) (f : Nat) (args : List AV) (ts : List Nat) : Option (AV × St) := do
  let l ← lendAll L st 0 args ts
  if lentApart (l.map (·.2.2)) && readFree (l.map (·.2.2)) args then
    let (v, r) ← Γ f (st.tag + 1) (l.map (·.1)) (l.map (·.2.1))
    if lentSame (l.map (·.2.1)) r then some (v, st) else none
  else none
def aCall (L : Nat → Option TI) (own : Bool) (Γ : Oracle) (st : St) (d : Nat) (f : Nat) (args : List AV) (ts : List Nat) : Option (AV × St) := do
  let l ← lendAll L st 0 args ts
  if lentApart (l.map (·.2.2)) && readFree (l.map (·.2.2)) args then
    let (v, r) ← Γ f (st.tag + 1) (l.map (·.1)) (l.map (·.2.1))
    let st' ← giveBack st (l.map (·.2.2)) r
    some (adopt own st' d v)
  else none
def nest (p i : Nat) : Nat := (p + 1) * 1000000 + i
abbrev Pk := List (Nat × (Nat × Nat) × Nat × (Nat × Nat))
def look (k : Nat) (g : Nat × Nat) : Pk → Option (Nat × (Nat × Nat))
  | [] => none
  | (k0, g0, k1, g1) :: l => if k0 = k ∧ g0 = g then some (k1, g1) else look k g l
inductive Dir where
  | plain | inn (t : Nat) | out (t : Nat)
def renU (u : Dir) (v : AV) : AV := match u with
  | .inn t => .veil t v
  | _ => .junk
def renS (u : Dir) (t : Nat) (v : AV) : AV := match u with
  | .plain => .veil t v
  | .inn t' => if t = t' then .junk else .veil t v
  | .out t' => if t = t' then (if v.top then v else .junk) else .veil t v
mutual
def ren (u : Dir) (pk : Pk) : AV → AV
  | .ref k g o => match look k g pk with
    | some (k', g') => .ref k' g' o
    | none => renU u (.ref k g o)
  | .msl k g z o n => match look k g pk with
    | some (k', g') => .msl k' g' z o n
    | none => renU u (.msl k g z o n)
  | .mref k g => match look k g pk with
    | some (k', g') => .mref k' g'
    | none => renU u (.mref k g)
  | .isl z n cs => .isl z n (renL u pk cs)
  | .fsl z n cs => .isl z n cs
  | .ipt cs => .ipt (renL u pk cs)
  | .agg cs => .agg (renL u pk cs)
  | .tup cs => .tup (renL u pk cs)
  | .fn f cs => .fn f (renL u pk cs)
  | .yld y cs => .yld y (renL u pk cs)
  | .mapd ks vs => .mapd (renL u pk ks) (renL u pk vs)
  | .imp ks vs => .imp (renL u pk ks) (renL u pk vs)
  | .junk => .junk
  | .bool b => .bool b
  | .int k n => .int k n
  | .str s => .str s
  | .nilp => .nilp
  | .nsl => .nsl
  | .nilI => .nilI
  | .nilF => .nilF
  | .nilM => .nilM
  | .gref g => .gref g
  | .err g => .err g
  | .veil t v => renS u t v
def renL (u : Dir) (pk : Pk) : List AV → List AV
  | [] => []
  | c :: cs => ren u pk c :: renL u pk cs
end
def refOf : AV → Option (Nat × (Nat × Nat))
  | .ref k g _ | .msl k g _ _ _ | .mref k g => some (k, g)
  | _ => none
mutual
def AV.shut : AV → Bool
  | .ref .. | .msl .. | .mref .. | .fsl .. | .tup _ => false
  | .isl _ _ cs | .ipt cs | .agg cs | .fn _ cs | .yld _ cs => shutL cs
  | .mapd ks vs | .imp ks vs => shutL ks && shutL vs
  | .junk | .bool _ | .int .. | .str _ | .nilp | .nsl | .nilI | .nilF | .nilM | .gref _ | .err _ | .veil .. => true
def shutL : List AV → Bool
  | [] => true
  | c :: cs => c.shut && shutL cs
end
def places (p : Nat) : Nat → List AV → List (AV × Nat)
  | _, [] => []
  | i, v :: vs => if v.shut then places p (i + 1) vs else (v, nest p i) :: places p (i + 1) vs
def placesP (p : Nat) (cs : List AV) : List (AV × Nat) := places p 0 cs
def kids (p : Nat) : AV → List (AV × Nat)
  | .isl _ _ cs | .ipt cs | .agg cs | .tup cs | .fn _ cs | .yld _ cs => placesP p cs
  | .mapd ks vs | .imp ks vs => placesP p ks ++ places p ks.length vs
  | _ => []
structure Pol where
  ok : Nat → Bool
  win : Nat → Option (Nat × Nat)
def Pol.all : Pol := ⟨fun _ => true, fun _ => none⟩
def placesW (lo hi p : Nat) : Nat → List AV → List (AV × Nat)
  | _, [] => []
  | i, v :: vs => if v.shut then placesW lo hi p (i + 1) vs else if Nat.ble lo i && Nat.blt i hi then (v, nest p i) :: placesW lo hi p (i + 1) vs else placesW lo hi p (i + 1) vs
def placesV (w : Option (Nat × Nat)) (p : Nat) (cs : List AV) : List (AV × Nat) := match w with
  | none => placesP p cs
  | some (lo, hi) => placesW lo hi p 0 cs
def winOf (L : Nat → Option TI) : List AV → List Nat → List (Nat × Nat × Nat)
  | .ref k _ o :: vs, t :: ts => match L t with
    | some ⟨.ptr e, _, _, _⟩ => match L e with
      | some j => (k, o, o + j.size) :: winOf L vs ts
      | none => winOf L vs ts
    | some ⟨.strct _, sz, _, _⟩ => (k, o, o + sz) :: winOf L vs ts
    | _ => winOf L vs ts
  | _ :: vs, _ :: ts => winOf L vs ts
  | _, _ => []
def winAt : List (Nat × Nat × Nat) → Nat → Option (Nat × Nat)
  | [], _ => none
  | (k', lo, hi) :: l, k => match Nat.beq k' k with
    | true => match winAt l k with
      | none => some (lo, hi)
      | some _ => none
    | false => winAt l k
def hideOf (K : Ann) (d : Nat) (args : List AV) : Option (List Nat) := match aget d K.hide with
  | some (a, tab) => match args[a]? with
    | some (.int _ n) => aget n.toNat tab
    | _ => none
  | none => none
def polOf (L : Nat → Option TI) (K : Ann) (d : Nat) (args : List AV) (ts : List Nat) : Pol :=
  ⟨okKey (hideOf K d args), match K.win.contains d with | true => winAt (winOf L args ts) | false => fun _ => none⟩
def visit (rd : Option (List Nat)) (V : Pol) (st : St) (g' : Nat × Nat) : Nat → List (AV × Nat) → Pk → Option Pk
  | _, [], pk => some pk
  | 0, _ :: _, _ => none
  | n + 1, (v, p) :: rest, pk =>
    match refOf v with
    | some (k, g) => if (look k g pk).isSome then visit rd V st g' n rest pk else if okKey rd k && V.ok k then
      match aget k st.heap with
      | some b => if b.stamp = g then visit rd V st g' n (rest ++ placesV (V.win k) p b.cells) (pk ++ [(k, g, (if isMapKey k then p + 500000 else p), g')]) else visit rd V st g' n rest pk
      | none => visit rd V st g' n rest pk
      else visit rd V st g' n rest pk
    | none => visit rd V st g' n (rest ++ kids p v) pk
def rootsAt (j : Nat) : List AV → List (AV × Nat)
  | [] => []
  | v :: vs => if v.shut then rootsAt (j + 1) vs else (v, j) :: rootsAt (j + 1) vs
def distinct : List Nat → Bool
  | [] => true
  | k :: l => !l.contains k && distinct l
def pkOk (pk : Pk) : Bool := distinct (pk.map (·.1)) && distinct (pk.map (·.2.2.1)) && pk.all fun x => isMapKey x.1 == isMapKey x.2.2.1
def packed (u : Dir) (st : St) (pk : Pk) : Pk → Option (List (Option (List AV)))
  | [] => some []
  | (k, g, k', _) :: l => match aget k st.heap with
    | some b => if b.stamp = g then (packed u st pk l).map (some (.mref k' (0, 0) :: renL u pk b.cells) :: ·) else none
    | none => none
def hHeap (tag : Nat) : List (Option (List AV)) → List (Nat × Blk)
  | some (.mref k _ :: cells) :: l => (k, ⟨(tag, 0), cells⟩) :: hHeap tag l
  | _ :: l => hHeap tag l
  | [] => []
def rootKeys : List AV → List Nat
  | [] => []
  | v :: vs => (match refOf v with
    | some (k, _) => [k]
    | none => match v with
      | .fn _ cs | .agg cs | .yld _ cs => cs.filterMap fun c => (refOf c).map (·.1)
      | _ => []) ++ rootKeys vs
def bring (d : Nat) (pk : Pk) : Nat → Nat → Nat
  | 0, p => nest d p
  | n + 1, p => match pk.find? fun x => x.2.2.1 == p with
    | some x => x.1
    | none => if Nat.ble 1000000 p then nest (bring d pk n (p / 1000000 - 1)) (p % 1000000) else nest d p
def backPk (st : St) (d tag : Nat) (pk : Pk) (roots : List Nat) : List (Option (List AV)) → Option Pk
  | [] => some []
  | some (.mref k' _ :: _) :: r => do
    let rest ← backPk st d tag pk roots r
    match (if roots.contains k' then pk.find? fun x => x.2.2.1 == k' else none) with
    | some x => some ((k', (tag, 0), x.1, x.2.1) :: rest)
    | none => some ((k', (tag, 0), bring d (pk.filter fun x => roots.contains x.2.2.1) 20 k', (st.tag, st.next)) :: rest)
  | _ :: _ => none
def backHeap (u : Dir) (pk : Pk) : Pk → List (Option (List AV)) → List (Nat × Blk)
  | (_, _, k2, g2) :: l, some (_ :: cells) :: r => (k2, ⟨g2, renL u pk cells⟩) :: backHeap u pk l r
  | _, _ => []
def lenOf (st : St) (k : Nat) : Option Nat := (aget k st.heap).map (·.cells.length)
def backOk (st : St) (roots : List Nat) : Pk → List (Option (List AV)) → Bool
  | (k', _, k2, _) :: l, some (_ :: cells) :: r => (if roots.contains k' then lenOf st k2 == some cells.length else Nat.ble 1000000 k2 || isMapKey k2) && backOk st roots l r
  | [], [] => true
  | _, _ => false
def hCallG (j0 : Nat) (hd : List AV) (f : Nat) (rd : Option (List Nat)) (V : Pol) (Γ : Oracle) (st : St) (d : Nat) (args : List AV) : Option (AV × St) := do
  let pk ← visit rd V st (st.tag + 1, 0) 200 (rootsAt j0 args) []
  if pkOk pk then
    let l ← packed (.inn st.tag) st pk pk
    let (v, r) ← Γ f (st.tag + 1) (hd ++ args.map (ren (.inn st.tag) pk)) l
    let roots := rootKeys (args.map (ren (.inn st.tag) pk))
    let bk ← backPk st d (st.tag + 1) pk roots r
    if (bk.map (·.2.2.1)).all (okKey rd) && (pkOk bk && backOk st roots bk r) then
      some (ren (.out st.tag) bk v, { st with
        heap := backHeap (.out st.tag) bk bk r ++ st.heap.filter fun p => !(pk.map (·.1)).contains p.1 && !(bk.map (·.2.2.1)).contains p.1
        next := st.next + 1 })
    else none
  else none
def hCall (rd : Option (List Nat)) (V : Pol) (Γ : Oracle) (st : St) (d : Nat) (f : Nat) (args : List AV) : Option (AV × St) := hCallG 0 [.mapd [] []] (f + 1000000000) rd V Γ st d args
def yCall (rd : Option (List Nat)) (Γ : Oracle) (st : St) (d : Nat) (y : YInfo) (args : List AV) : Option (AV × St) :=
  if args.all AV.top then hCallG 250000 [.mapd [.nilM] [], .yld y []] (y.num + 1000000000) rd .all Γ st d args else none
mutual
def view (rd : Option (List Nat)) (st : St) : Nat → AV → AV
  | 0, v => if v.shut then v else .junk
  | n + 1, v => match v with
    | .ref k g o => if !okKey rd k then .junk else match blkOf st k g with
      | some cells => if o ≤ cells.length then .ipt (viewL rd st n (cells.drop o)) else .junk
      | none => .junk
    | .msl k g z o m => if !okKey rd k then .junk else match blkOf st k g with
      | some cells => if o + m * z ≤ cells.length then .isl z m (viewL rd st n ((cells.drop o).take (m * z))) else .junk
      | none => .junk
    | .mref k g => if !okKey rd k then .junk else match mapOf st k g with
      | some (ks, vs) => .imp (viewL rd st n ks) (viewL rd st n vs)
      | none => .junk
    | .isl z m cs => .isl z m (viewL rd st n cs)
    | .fsl z m cs => .isl z m cs
    | .ipt cs => .ipt (viewL rd st n cs)
    | .imp ks vs => .imp (viewL rd st n ks) (viewL rd st n vs)
    | .agg cs => .agg (viewL rd st n cs)
    | .tup _ | .fn _ _ | .yld _ _ | .mapd _ _ => .junk
    | v => v
def viewL (rd : Option (List Nat)) (st : St) : Nat → List AV → List AV
  | _, [] => []
  | 0, v :: vs => (if v.shut then v else .junk) :: viewL rd st 0 vs
  | n + 1, v :: vs => view rd st (n + 1) v :: viewL rd st (n + 1) vs
end
def vCall (rd : Option (List Nat)) (own : Bool) (Γ : Oracle) (st : St) (d : Nat) (f : Nat) (args : List AV) : Option (AV × St) := do
  let (v, _) ← Γ f (st.tag + 1) (args.map (view rd st 12)) (args.map fun _ => none)
  some (adopt own st d v)
def isAppend : Builtin → Bool
  | .append => true
  | _ => false
def shorten (st : St) : List AV → Option (List AV × St)
  | .msl s g z o m :: r => (blkOf st s g).bind fun cells => if o + m * z ≤ cells.length then some (.msl s (st.tag, st.next) z o m :: r, (newBlk st s (cells.take (o + m * z))).2) else none
  | l => some (l, st)
def denOp (L : Nat → Option TI) (K : Ann) (Γ : Oracle) (st : St) (d ty : Nat) (op : Op) : Option (AV × St) :=
  match op with
  | .move x => some (operand st x, st)
  | .assign x =>
    match x, operand st x with
    | .const _, .nsl => if K.own.contains d then (slElem L ty).map fun e => let p := newBlk st d []; (.msl d p.1 e.size 0 0, p.2) else some (.nsl, st)
    | _, v => some (v, st)
  | .pick c a b => match operand st c with
    | .bool x => some (if x then operand st a else operand st b, st)
    | _ => none
  | .alloc e => do
    let i ← L e
    let p := newBlk st d i.zero
    some (.ref d p.1 0, p.2)
  | .box _ x => if (operand st x).solid then (let p := newBlk st d (operand st x).cells; some (.ref d p.1 0, p.2)) else none
  | .build t ps => do
    let i ← L t
    match i.desc with
    | .strct fs => do
      let cs ← fillA (fun k => do let (o, ty) ← fs[k]?; let j ← L ty; some (o, j.size)) i.zero (parts st ps)
      some (.agg cs, st)
    | .arr _ e => do
      let j ← L e
      let cs ← fillA (fun k => some (k * j.size, j.size)) i.zero (parts st ps)
      some (.agg cs, st)
    | _ => none
  | .buildSlice t n ps => do
    let e ← slElem L t
    if n * e.size ≤ 16777216 ∧ e.zero.length = e.size ∧ 0 < e.size then
      let cs ← fillA (fun k => some (k * e.size, e.size)) (repl n e.zero) (parts st ps)
      let p := newBlk st d cs
      some (.msl d p.1 e.size 0 n, p.2)
    else none
  | .load t a => if !okRead (aget d K.reads) (operand st a) then none else do
    let i ← L t
    let v ← gLoad K.reads i st (operand st a)
    some (v, st)
  | .store t a x => if !okStore (K.storeAt a) (operand st a) then none else do
    let i ← L t
    let st' ← aStore i st (operand st a) (operand st x)
    some (.tup [], st')
  | .nilCheck x => match operand st x with
    | .ref s g o => some (.ref s g o, st)
    | .ipt c => some (.ipt c, st)
    | _ => none
  | .binOp op t x y _ => (aBinN L t op (isConstO x || isConstO y) (operand st x) (operand st y)).map fun v => (v, st)
  | .unOp op _ x => (aUn op (operand st x)).map fun v => (v, st)
  | .typeAssert x _ t ok => (aAs L t ok (operand st x)).map fun v => (v, st)
  | .convert s t x => do
    let i ← L s
    let j ← L t
    match i.desc, j.desc, operand st x with
    | .int _, .int k, .int _ n => some (.int k (k.wrap n), st)
    | .slice e, .str, v => if !okRead (aget d K.reads) v then none else do
      let ie ← L e
      match ie.desc with
      | .int .u8 => do
        let (_, cells) ← slCells st 1 v
        let xs ← u8s cells
        some (.str (strOfNums xs), st)
      | _ => none
    | _, _, _ => none
  | .makeSlice t len cap => do
    let e ← slElem L t
    match operand st len, operand st cap with
    | .int _ n, .int _ k =>
      if 0 ≤ n ∧ n ≤ k ∧ k.toNat * e.size ≤ 16777216 ∧ k.toNat * e.bytes ≤ 140737488355328 ∧ k ≤ 140737488355328 ∧ e.zero.length = e.size ∧ 0 < e.size then
        let p := newBlk st d (repl n.toNat e.zero)
        some (.msl d p.1 e.size 0 n.toNat, p.2)
      else none
    | _, _ => none
  | .fieldAddr s x f => do
    let (o, j) ← fieldOf L s f
    if j.size = 0 then none else
    match operand st x with
    | .ref s g k => some (.ref s g (k + o), st)
    | .ipt cells => some (.ipt (cells.drop o), st)
    | _ => none
  | .field s x f => do
    let (o, j) ← fieldOf L s f
    match operand st x with
    | .agg cs => do let v ← rdCells j cs o; some (v, st)
    | _ => none
  | .indexAddr t x ix => if !okRead (aget d K.reads) (operand st x) then none else do
    let i ← L t
    let k ← asInt? (operand st ix)
    match i.desc with
    | .arr n e => do
      let j ← L e
      if 0 ≤ k ∧ k < n then
        match operand st x with
        | .ref s g o => some (.ref s g (o + k.toNat * j.size), st)
        | .ipt cells => some (.ipt (cells.drop (k.toNat * j.size)), st)
        | _ => none
      else none
    | .slice e => do
      let j ← L e
      match operand st x with
      | .msl s g z o n => if z = j.size ∧ 0 ≤ k ∧ k < n ∧ (blkOf st s g).isSome then some (.ref s g (o + k.toNat * j.size), st) else none
      | .isl z n cells => if z = j.size ∧ 0 ≤ k ∧ k < n then some (.ipt (cells.drop (k.toNat * j.size)), st) else none
      | .fsl z n cells => if z = j.size ∧ 0 ≤ k ∧ k < n then some (.ipt (cells.drop (k.toNat * j.size)), st) else none
      | _ => none
    | _ => none
  | .sliceToArrayPointer t x => if !okRead (aget d K.reads) (operand st x) then none else do
    let i ← L t
    match i.desc with
    | .arr n _ =>
      match operand st x with
      | .msl s g _ o m => if n ≤ m ∧ 0 < m ∧ (blkOf st s g).isSome then some (.ref s g o, st) else none
      | .isl _ m cells => if n ≤ m ∧ 0 < m then some (.ipt cells, st) else none
      | .fsl _ m cells => if n ≤ m ∧ 0 < m then some (.ipt cells, st) else none
      | _ => none
    | _ => none
  | .index t x ix => do
    let i ← L t
    let k ← asInt? (operand st ix)
    match i.desc, operand st x with
    | .arr n e, .agg cs => do
      let j ← L e
      if 0 ≤ k ∧ k < n then do let v ← rdCells j cs (k.toNat * j.size); some (v, st) else none
    | .str, .str s => if 0 ≤ k then (s[k.toNat]?).map fun b => (.int .u8 b.toNat, st) else none
    | _, _ => none
  | .slice t x lo hi (some mx) => if !okRead (aget d K.reads) (operand st x) then none else do
    let i ← L t
    match i.desc with
    | .slice e => do
      let _ ← L e
      let n ← slLen (operand st x)
      let k ← asInt? (operand st mx)
      let h ← bnd (-1) (hi.map (operand st))
      let l ← bnd 0 (lo.map (operand st))
      if 0 ≤ l ∧ l = h ∧ h = k ∧ k ≤ n ∧ (operand st x).isStr = false then some (.nsl, st) else none
    | _ => none
  | .slice t x lo hi none => do
    if !okRead (aget d K.reads) (operand st x) then none else
    let i ← L t
    match i.desc with
    | .str => do let v ← aStrSlice (operand st x) (lo.map (operand st)) (hi.map (operand st)); some (v, st)
    | .slice e => do
      let j ← L e
      let v ← aSlice j.size (operand st x) (lo.map (operand st)) (hi.map (operand st))
      some (v, st)
    | .arr n e => do
      let j ← L e
      match operand st x with
      | .ref s g o => do
        let cells ← blkOf st s g
        if o + n * j.size ≤ cells.length then do let v ← aSlice j.size (.msl s g j.size o n) (lo.map (operand st)) (hi.map (operand st)); some (v, st) else none
      | _ => none
    | _ => none
  | .extract x k => match operand st x with
    | .tup vs => do let v ← vs[k]?; some (v, st)
    | _ => none
  | .makeMap t none => do
    let _ ← mapTy L t
    let p := newBlk st (d + 500000) [.mapd [] []]
    some (.mref (d + 500000) p.1, p.2)
  | .lookup t x ix ok => if !okMap (aget d K.reads) (operand st x) then none else do
    let (kt, e) ← mapTy L t
    let j ← L e
    let (ks, vs) ← mapArg st (operand st x)
    let (v, is) ← mlook L kt j.zeroAV (operand st ix) ks vs
    some (if ok then .tup [v, .bool is] else v, st)
  | .mapUpdate t x k v => do
    let (kt, _) ← mapTy L t
    match operand st x with
    | .mref s g => do
      let (ks, vs) ← mapOf st s g
      if keyEq L kt (operand st k) (operand st k) = some true ∧ (operand st v).solid ∧ (operand st v).top then do
        let (ks', vs') ← mput L kt (operand st k) (operand st v) ks vs
        some (.tup [], putCells st s [.mapd ks' vs'])
      else none
    | _ => none
  | .makeFunc fn first captured => match fn with
    | .func f => if first.size = 0 then (if (captured.toList.map (operand st)).all AV.isRef then some (.fn f (captured.toList.map (operand st)), st) else none) else none
    | _ => none
  | .call c => match c.callee with
    | .builtin b => if K.hp.contains d && isAppend b then (shorten st (c.args.toList.map (operand st))).bind fun q => aBuiltin L q.2 d b c.argTypes.toList q.1 else if isAppend b && !(c.args.toList.map (operand st)).all (okRead (aget d K.reads)) then none else aBuiltin L st d b c.argTypes.toList (c.args.toList.map (operand st))
    | .value f => match operand st f with
      | .yld y captured => if K.hp.contains d then yCall (aget d K.reads) Γ st d y (c.args.toList.map (operand st) ++ captured) else none
      | .fn g captured => if K.hp.contains d then (if K.ro.contains d then vCall (aget d K.reads) (K.own.contains d) Γ st d g (c.args.toList.map (operand st) ++ captured) else hCall (aget d K.reads) (polOf L K d (c.args.toList.map (operand st) ++ captured) c.argTypes.toList) Γ st d g (c.args.toList.map (operand st) ++ captured)) else if !(c.args.toList.map (operand st) ++ captured).all (okRead (aget d K.reads)) then none else if K.ro.contains d then roCall L Γ st g (c.args.toList.map (operand st) ++ captured) c.argTypes.toList else aCall L (K.own.contains d) Γ st d g (c.args.toList.map (operand st) ++ captured) c.argTypes.toList
      | _ => none
    | .invoke .. => none
  | _ => none
def runs (ops : List Oper) (st : St) (o : Oper) : Option Bool :=
  match o.guard with
  | none => some true
  | some (j, want) =>
    match (ops[j]?).bind (·.dst) with
    | some d => match aget d st.env with
      | some (.bool b) => some (b == want)
      | some (.tup []) => some false
      | _ => none
    | none => none
def putD (st : St) (d : Option Nat) (v : AV) : St :=
  match d with
  | some d => { st with env := aput d v st.env }
  | none => st
def denOper (L : Nat → Option TI) (K : Ann) (Γ : Oracle) (ops : List Oper) (o : Oper) (st : St) : Option St :=
  if o.dst.getD 0 < K.nt then
  match runs ops st o with
  | some true => (denOp L K Γ st (o.dst.getD 0) o.type o.op).map fun p => putD p.2 o.dst p.1
  | some false => some (putD st o.dst (.tup []))
  | none => none
  else none
def denOps (L : Nat → Option TI) (K : Ann) (Γ : Oracle) (ops : List Oper) : List Oper → St → Option St
  | [], st => some st
  | o :: l, st => (denOper L K Γ ops o st).bind (denOps L K Γ ops l)
def tidy (cross : List Nat) : List Oper → St → St
  | [], st => st
  | o :: l, st => tidy cross l (match o.dst with
    | some d => if cross.contains d then st else { st with env := adel d st.env }
    | none => st)
def keepKey (sites : List Nat) (k : Nat) : Bool := Nat.ble 500000 k && sites.contains (grp k)
def insK (p : Nat × Blk) : List (Nat × Blk) → List (Nat × Blk)
  | [] => [p]
  | q :: l => match Nat.ble p.1 q.1 with
    | true => p :: q :: l
    | false => q :: insK p l
def sortK : List (Nat × Blk) → List (Nat × Blk)
  | [] => []
  | p :: l => insK p (sortK l)
def trim (h : Option (Nat × List Nat × List Nat)) (st : St) : St :=
  match h with
  | some (_, slots, sites) => { st with
      env := slots.filterMap fun k => (aget k st.env).map (k, ·)
      heap := (sites.filterMap fun k => (aget k st.heap).map (k, ·)) ++ sortK (st.heap.filter fun p => keepKey sites p.1) }
  | none => st
def firstRegion : Code → Nat
  | .region id _ _ => id
  | .seq a _ => firstRegion a
  | .block _ a => firstRegion a
  | .loop a => firstRegion a
  | _ => 0
def loopF (f : St → Option (Ex × St)) : Nat → St → Option (Ex × St)
  | 0, _ => none
  | n + 1, st => match f st with
    | some (.normal, st') => loopF f n st'
    | r => r
open Classical in
noncomputable def loopω (f : St → Option (Ex × St)) (st : St) : Option (Ex × St) :=
  if h : ∃ n, (loopF f n st).isSome then loopF f h.choose st else none
def ptrFree (L : Nat → Option TI) (t : Nat) : Bool :=
  match L t with
  | some i => match i.desc with
    | .bool | .int _ | .str | .slice _ | .func => true
    | _ => false
  | none => false
structure FP where
  rd : Option (List Nat)
  wr : Option (List Nat)
  nx : Bool
def FP.no : FP := ⟨some [], some [], false⟩
def FP.all : FP := ⟨none, none, true⟩
def isFn : Operand → Bool
  | .func _ => true
  | _ => false
def fpOf (L : Nat → Option TI) (K : Ann) (d : Nat) (op : Op) : FP :=
  match op with
  | .convert s _ _ => match L s with
    | some i => match i.desc with
      | .slice _ => ⟨aget d K.reads, some [], false⟩
      | _ => .no
    | none => .no
  | .makeSlice .. => ⟨some [], some [3 * grp d], true⟩
  | .move _ | .pick .. | .binOp .. | .unOp .. | .typeAssert .. | .fieldAddr .. | .field .. | .index .. | .extract .. | .build .. | .nilCheck _ | .makeFunc .. => .no
  | .assign _ => if K.own.contains d then ⟨some [], some [3 * grp d], true⟩ else .no
  | .alloc _ | .box .. | .buildSlice .. => ⟨some [], some [3 * grp d], true⟩
  | .load .. | .indexAddr .. | .sliceToArrayPointer .. | .slice .. | .lookup .. => ⟨aget d K.reads, some [], false⟩
  | .store _ a _ => match K.storeAt a with
    | some s => ⟨some [], some [3 * s + 1], false⟩
    | none => ⟨some [], none, false⟩
  | .call c => match c.callee with
    | .builtin .len | .builtin .min | .builtin .max => .no
    | .builtin .append => if K.hp.contains d then .all else ⟨aget d K.reads, (aget d K.reads).map fun l => 3 * grp d :: l, true⟩
    | .value f => if K.hp.contains d then (if K.ro.contains d then (if isFn f then ⟨aget d K.reads, if K.own.contains d then some [3 * grp d] else some [], K.own.contains d⟩ else .all) else ⟨aget d K.reads, aget d K.reads, true⟩) else if K.ro.contains d then ⟨aget d K.reads, some [], false⟩ else
      let free := isFn f && (c.args.size == c.argTypes.size && c.argTypes.toList.all (ptrFree L))
      ⟨aget d K.reads, if free then some (if K.own.contains d then [3 * grp d] else []) else (aget d K.reads).map fun l => if K.own.contains d then 3 * grp d :: l else l, K.own.contains d⟩
    | _ => .all
  | _ => .all
def apartA (a b : Nat) : Bool := match Nat.beq (a % 3) 0, Nat.beq (b % 3) 0 with
  | true, true => !Nat.beq a b
  | true, false => !Nat.beq (grp (b / 3)) (a / 3)
  | false, true => !Nat.beq (grp (a / 3)) (b / 3)
  | false, false => !Nat.beq (grp (a / 3)) (grp (b / 3)) ||
    match Nat.beq (a % 3) 1, Nat.beq (b % 3) 1 with
    | true, _ => !hits (a / 3) b
    | false, true => !hits (b / 3) a
    | false, false => false
def apartF : Option (List Nat) → Option (List Nat) → Bool
  | some [], _ => true
  | _, some [] => true
  | some l, some l' => l.all fun k => l'.all (apartA k)
  | _, _ => false
def turnOk (L : Nat → Option TI) (K : Ann) (ops : Array Oper) (x y : Oper) : Bool :=
  x.apart ops y &&
    (let p := fpOf L K (x.dst.getD 0) x.op
     let q := fpOf L K (y.dst.getD 0) y.op
     apartF p.rd q.wr && apartF p.wr q.rd && apartF p.wr q.wr && !(p.nx && q.nx))
def directs (o : Oper) : List Nat := o.after.toList.filterMap fun e => if Region.binds .any e then some e.on else none
def waits (ops : Array Oper) : Nat → Nat → List Nat
  | 0, i => match ops[i]? with
    | some o => directs o
    | none => []
  | n + 1, i => let l := waits ops n i
    (l ++ l.flatMap fun j => match ops[j]? with
      | some o => directs o
      | none => []).eraseDups
def drawOk (L : Nat → Option TI) (K : Ann) (ops : Array Oper) : Bool :=
  (List.range ops.size).all fun i => match ops[i]? with
    | none => false
    | some y => (directs y).all (· < i) && (let l := waits ops 12 i
      (List.range i).all fun j => match ops[j]? with
        | none => false
        | some x => l.contains j || turnOk L K ops x y)
def drawsOk (L : Nat → Option TI) (K : Ann) : Code → Bool
  | .region _ ops draw => !draw || drawOk L K ops
  | .seq a b => drawsOk L K a && drawsOk L K b
  | .cond _ a b => drawsOk L K a && drawsOk L K b
  | .block _ a => drawsOk L K a
  | .loop a => drawsOk L K a
  | .rangeFunc _ _ a b => drawsOk L K a && drawsOk L K b
  | _ => true
def noRange : Code → Bool
  | .seq a b => noRange a && noRange b
  | .cond _ a b => noRange a && noRange b
  | .block _ a => noRange a
  | .loop a => noRange a
  | .rangeFunc .. => false
  | _ => true
open Classical in
noncomputable def den (lp : (St → Option (Ex × St)) → St → Option (Ex × St)) (L : Nat → Option TI) (K : Ann) (Γ : Oracle) : Code → St → Option (Ex × St)
  | .skip, st => some (.normal, st)
  | .region _ ops _, st => (denOps L K Γ ops.toList ops.toList st).map fun st' => (.normal, tidy K.cross ops.toList st')
  | .seq a b, st => match den lp L K Γ a st with
    | some (.normal, st') => den lp L K Γ b st'
    | r => r
  | .cond c a b, st => match operand st c with
    | .bool x => if x then den lp L K Γ a st else den lp L K Γ b st
    | _ => none
  | .block id a, st => match den lp L K Γ a st with
    | some (.exit j, st') => if j = id then some (.normal, st') else some (.exit j, st')
    | r => r
  | .loop a, st => lp (fun s => den lp L K Γ a (trim (K.heads.find? (·.1 == firstRegion a)) s)) st
  | .rangeFunc g ps assign body, st => match operand st g, aget (firstRegion assign) K.ys with
    | .fn f caps, some y =>
      if (y.ps = ps.toList ∧ y.assign = assign ∧ y.body = body ∧ y.nt = K.nt) ∧ (y.slots.map fun k => (aget k st.env).getD .junk).all AV.cap = true ∧ st.env.all (fun p => p.2.calm) = true then
        (hCall none .all Γ st (y.ps.headD 0) f (.yld y (y.slots.map fun k => (aget k st.env).getD .junk) :: caps)).bind fun p => some (.normal, p.2)
      else none
    | _, _ => none
  | .exit id, st => some (.exit id, st)
  | .ret, st => some (.ret, st)
  | _, _ => none
structure AFn where
  body : Code
  np : Nat
  results : List ResultVar
  ann : Ann
  frz : List Nat
inductive Entry where
  | code (a : AFn)
  | hcode (a : AFn)
  | ycode (y : YInfo) (K : Ann)
  | law (o : Nat → List AV → List (Option (List AV)) → Option (AV × List (Option (List AV))))
  | hlaw (o : Nat → List AV → List (Option (List AV)) → Option (AV × List (Option (List AV))))
def argEnv : Nat → List AV → List (Nat × AV)
  | _, [] => []
  | k, v :: vs => (k, v) :: argEnv (k + 1) vs
def lentHeap (tag : Nat) : Nat → List (Option (List AV)) → List (Nat × Blk)
  | _, [] => []
  | k, none :: l => lentHeap tag (k + 1) l
  | k, some cells :: l => (k, ⟨(tag, 0), cells⟩) :: lentHeap tag (k + 1) l
def lentOut (st : St) : Nat → List (Option (List AV)) → Option (List (Option (List AV)))
  | _, [] => some []
  | k, none :: l => (lentOut st (k + 1) l).map (none :: ·)
  | k, some old :: l => do
    let cells ← blkOf st k (st.tag, 0)
    let r ← lentOut st (k + 1) l
    if cells.length = old.length ∧ cells.all AV.plain then some (some cells :: r) else none
def getRes (L : Nat → Option TI) (st : St) : ResultVar → Option AV
  | .tmp k => some ((aget k st.env).getD .junk)
  | .cell k t => (L t).bind fun i => aLoad i st ((aget k st.env).getD .junk)
def getAll (L : Nat → Option TI) (st : St) : List ResultVar → Option (List AV)
  | [] => some []
  | k :: ks => (getRes L st k).bind fun v => (getAll L st ks).map (v :: ·)
def oneOrTup : List AV → AV
  | [v] => v
  | vs => .tup vs
noncomputable def runFn (lp : (St → Option (Ex × St)) → St → Option (Ex × St)) (L : Nat → Option TI) (a : AFn) (Γ : Oracle) (tag : Nat) (args : List AV) (lent : List (Option (List AV))) :
    Option (AV × List (Option (List AV))) :=
  if args.length = a.np ∧ lent.length = a.np then
    match den lp L a.ann Γ a.body { env := argEnv 0 args, heap := lentHeap tag 0 lent, next := 1, tag } with
    | some (.exit _, _) | none => none
    | some (_, st) => do
      let gs ← getAll L st a.results
      let (vs, _) ← freezeAll a.np a.frz st gs
      let r ← lentOut st 0 lent
      some (oneOrTup vs, r)
  else none
def endH (L : Nat → Option TI) (rs : List ResultVar) (tag : Nat) (args : List AV) (st : St) : Option (AV × List (Option (List AV))) := do
  let gs ← getAll L st rs
  let pk ← visit none .all st (tag, 0) 200 (rootsAt 0 args ++ rootsAt 400000 gs) []
  if pkOk pk && st.tag == tag && (rootKeys args).all (fun k => look k (tag, 0) pk == some (k, (tag, 0))) then
    let r ← packed .plain st pk pk
    some (oneOrTup (gs.map (ren .plain pk)), r)
  else none
def finM (L : Nat → Option TI) (mat : List (Nat × Nat × Nat × Nat)) (rs : List ResultVar) (tag : Nat) (args : List AV) (st : St) : Option (AV × List (Option (List AV))) :=
  match mat with
  | [] => endH L rs tag args st
  | mat => (getAll L st rs).bind fun gs => endH L rs tag args (matAll (args ++ gs) mat st)
noncomputable def runFnH (lp : (St → Option (Ex × St)) → St → Option (Ex × St)) (L : Nat → Option TI) (a : AFn) (Γ : Oracle) (tag : Nat) (args : List AV) (lent : List (Option (List AV))) :
    Option (AV × List (Option (List AV))) :=
  if args.length = a.np then
    match den lp L a.ann Γ a.body { env := argEnv 0 args, heap := hHeap tag lent, next := 1, tag } with
    | some (.exit _, _) | none => none
    | some (_, st) => finM L a.ann.mat a.results tag args st
  else none
def yEnv (y : YInfo) (args : List AV) : List (Nat × AV) := y.ps.zip args ++ y.slots.zip (args.drop y.ps.length)
noncomputable def runFnY (lp : (St → Option (Ex × St)) → St → Option (Ex × St)) (L : Nat → Option TI) (y : YInfo) (K : Ann) (Γ : Oracle) (tag : Nat) (args : List AV) (lent : List (Option (List AV))) :
    Option (AV × List (Option (List AV))) :=
  if args.length = y.ps.length + y.slots.length then
    match den lp L K Γ y.assign { env := yEnv y args, heap := hHeap tag lent, next := 1, tag } with
    | some (.normal, st1) =>
      if st1.env.all (fun p => p.2.calm) then
        match den lp L K Γ y.body st1 with
        | some (.normal, st) => do
          let pk ← visit none .all st (tag, 0) 200 (rootsAt 250000 args) []
          if st.env.all (fun p => p.2.calm) && (pkOk pk && st.tag == tag && (rootKeys args).all (fun k => look k (tag, 0) pk == some (k, (tag, 0)))) then
            let r ← packed .plain st pk pk
            some (.bool true, r)
          else none
        | _ => none
      else none
    | _ => none
  else none
noncomputable def callN (lp : (St → Option (Ex × St)) → St → Option (Ex × St)) (L : Nat → Option TI) (T : Nat → Option Entry) : Nat → Oracle
  | 0 => fun _ _ _ _ => none
  | n + 1 => fun f tag args lent =>
    match T f with
    | none => none
    | some (.law o) => o tag args lent
    | some (.code a) => runFn lp L a (callN lp L T n) tag args lent
    | some (.hcode a) => match args with
      | .mapd [] [] :: as => runFnH lp L a (callN lp L T n) tag as lent
      | _ => none
    | some (.ycode y K) => match args with
      | .mapd [.nilM] [] :: .yld y' [] :: as => (open Classical in if y' = y then runFnY lp L y K (callN lp L T n) tag as lent else none)
      | _ => none
    | some (.hlaw o) => match args with
      | .mapd [] [] :: as => o tag as lent
      | _ => none
open Classical in
noncomputable def callω (L : Nat → Option TI) (T : Nat → Option Entry) : Oracle := fun f tag args lent =>
  if h : ∃ n, (callN loopω L T n f tag args lent).isSome then callN loopω L T h.choose f tag args lent else none
end Go.Sim
end
section
namespace Go.Sim
open Go
theorem zan {α : Type} (k j : Nat) (v : α) (l : List (Nat × α)) : aget k (aput j v l) = if j = k then some v else aget k l := by
  induction l with
  | nil => simp [aput, aget]
  | cons p l ih =>
    obtain ⟨i, u⟩ := p
    simp only [aput]
    by_cases h : i = j
    · subst h; simp only [if_true, aget]; by_cases h2 : i = k <;> simp [h2]
    · simp only [if_neg h, aget, ih]
      by_cases h2 : i = k
      · subst h2; simp [Ne.symm h]
      · simp [h2]
theorem aget_adel {α : Type} (k j : Nat) (l : List (Nat × α)) : aget k (adel j l) = if j = k then none else aget k l := by
  induction l with
  | nil => simp [adel, aget]
  | cons p l ih =>
    obtain ⟨i, u⟩ := p
    simp only [adel]
    by_cases h : i = j
    · subst h; simp only [if_true, ih, aget]; by_cases h2 : i = k <;> simp [h2]
    · simp only [if_neg h, aget, ih]
      by_cases h2 : i = k
      · subst h2; simp [Ne.symm h]
      · simp [h2]
theorem znn {α : Type} (k : Nat) (ks : List Nat) (l : List (Nat × α)) {v : α} (h : aget k (ks.filterMap fun j => (aget j l).map (j, ·)) = some v) : aget k l = some v := by
  induction ks with
  | nil => simp [aget] at h
  | cons j ks ih =>
    cases hj : aget j l with
    | none => simp [List.filterMap_cons, hj] at h; exact ih h
    | some u =>
      simp only [List.filterMap_cons, hj, Option.map_some, aget] at h
      by_cases e : j = k
      · subst e; simp at h; subst h; exact hj
      · simp only [if_neg e] at h; exact ih h
theorem zc4 {α : Type} (k : Nat) : ∀ (l r : List (Nat × α)), aget k (l ++ r) = (aget k l).or (aget k r)
  | [], r => by simp [aget]
  | (j, u) :: l, r => by
    simp only [List.cons_append, aget]
    by_cases e : j = k
    · simp [e]
    · simp only [if_neg e, zc4 k l r]
theorem zdy {α : Type} (k : Nat) (f : Nat → Bool) {v : α} : ∀ (l : List (Nat × α)), aget k (l.filter fun p => f p.1) = some v → aget k l = some v
  | [], h => by simp [aget] at h
  | (j, u) :: l, h => by
    simp only [List.filter_cons] at h
    by_cases e : j = k
    · subst e
      split at h
      · simpa [aget] using h
      · rename_i hf
        exfalso
        have : ∀ (l : List (Nat × α)), aget j (l.filter fun p => f p.1) = none := fun l => by
          induction l with
          | nil => rfl
          | cons p l ih =>
            simp only [List.filter_cons]
            split
            · rename_i hp
              obtain ⟨i, w⟩ := p
              simp only [aget]
              rw [if_neg (fun e => hf (by rw [← e]; exact hp))]
              exact ih
            · exact ih
        rw [this l] at h
        cases h
    · split at h
      · simp only [aget, if_neg e] at h ⊢
        exact zdy k f l h
      · simp only [aget, if_neg e]
        exact zdy k f l h
def okS (tag : Nat) (n : Nat) (σ : Nat × Nat) : Prop := σ.1 < tag ∨ (σ.1 = tag ∧ σ.2 < n)
theorem zez {tag : Nat} {n n' : Nat} {σ : Nat × Nat} (h : okS tag n σ) (hn : n ≤ n') : okS tag n' σ := by
  unfold okS at *; omega
theorem zbr {tag : Nat} {n : Nat} : ¬ okS tag n (tag, n) := by
  simp [okS]
theorem zay (tag : Nat) (n : Nat) : okS tag (n + 1) (tag, n) := by
  simp [okS]
theorem okS_call {tag : Nat} {n : Nat} {σ : Nat × Nat} (m : Nat) (h : okS tag n σ) : okS (tag + 1) m σ := by
  unfold okS at *; omega
structure Pres (A : Nat → Nat → Prop) (w w' : World) : Prop where
  os : w'.os = w.os
  tape : w'.tape = w.tape
  output : w'.output = w.output
  size : w.heap.size ≤ w'.heap.size
  cells : ∀ (b : Nat) (c : Array Value) (e : TypeId) (fr : Nat × Nat), w.heap[b]? = some (.cells c e fr) → ∃ c' : Array Value, w'.heap[b]? = some (.cells c' e fr) ∧ c'.size = c.size ∧ ∀ o : Nat, ¬ A b o → c'[o]? = c[o]?
  other : ∀ (b : Nat) (ob : Obj), w.heap[b]? = some ob → (∀ c e fr, ob ≠ Obj.cells c e fr) → ¬ A b 0 → w'.heap[b]? = some ob
  maps : ∀ (b : Nat) (es : Array MapEntry) (n : Nat), w.heap[b]? = some (.map es n) → ∃ (es' : Array MapEntry) (n' : Nat), w'.heap[b]? = some (.map es' n')
  rest : ∀ (b : Nat) (ob : Obj), w.heap[b]? = some ob → (∀ c e fr, ob ≠ Obj.cells c e fr) → (∀ es n, ob ≠ Obj.map es n) → w'.heap[b]? = some ob
theorem Pres.refl (A : Nat → Nat → Prop) (w : World) : Pres A w w :=
  ⟨rfl, rfl, rfl, Nat.le_refl _, fun _ c _ _ h => ⟨c, h, rfl, fun _ _ => rfl⟩, fun _ _ h _ _ => h, fun _ es n h => ⟨es, n, h⟩, fun _ _ h _ _ => h⟩
theorem Pres.trans {A B C : Nat → Nat → Prop} {w w1 w2 : World} (h : Pres A w w1) (k : Pres B w1 w2)
    (hA : ∀ b o, b < w.heap.size → A b o → C b o) (hB : ∀ b o, b < w.heap.size → B b o → C b o) : Pres C w w2 := by
  refine ⟨k.os.trans h.os, k.tape.trans h.tape, k.output.trans h.output, Nat.le_trans h.size k.size, fun b c e fr hb => ?_, fun b ob hb hn hC => ?_, fun b es n hb => ?_, fun b ob hb hn hm => k.rest b ob (h.rest b ob hb hn hm) hn hm⟩
  rotate_left
  · have hlt : b < w.heap.size := (Array.getElem?_eq_some_iff.1 hb).1
    exact k.other b ob (h.other b ob hb hn (fun x => hC (hA b 0 hlt x))) hn (fun x => hC (hB b 0 hlt x))
  · obtain ⟨es1, n1, h1⟩ := h.maps b es n hb
    exact k.maps b es1 n1 h1
  have hlt : b < w.heap.size := (Array.getElem?_eq_some_iff.1 hb).1
  obtain ⟨c1, h1, s1, g1⟩ := h.cells b c e fr hb
  obtain ⟨c2, h2, s2, g2⟩ := k.cells b c1 e fr h1
  exact ⟨c2, h2, s2.trans s1, fun o ho => (g2 o (fun hx => ho (hB b o hlt hx))).trans (g1 o (fun hx => ho (hA b o hlt hx)))⟩
theorem Pres.mono {A C : Nat → Nat → Prop} {w w1 : World} (h : Pres A w w1) (hA : ∀ b o, b < w.heap.size → A b o → C b o) : Pres C w w1 :=
  h.trans (Pres.refl (fun _ _ => False) w1) hA (fun _ _ _ x => x.elim)
theorem Pres.alloc (A : Nat → Nat → Prop) (w : World) (ob : Obj) : Pres A w (w.alloc ob) := by
  have key : ∀ b x, w.heap[b]? = some x → (w.alloc ob).heap[b]? = some x := fun b x h => by
    have hlt : b < w.heap.size := (Array.getElem?_eq_some_iff.1 h).1
    show (w.heap.push ob)[b]? = _
    rw [Array.getElem?_push, if_neg (by omega)]; exact h
  exact ⟨rfl, rfl, rfl, by simp, fun b c e fr h => ⟨c, key b _ h, rfl, fun _ _ => rfl⟩, fun b x h _ _ => key b x h, fun b es n h => ⟨es, n, key b _ h⟩, fun b x h _ _ => key b x h⟩
theorem Pres.drew (A : Nat → Nat → Prop) (w : World) : Pres A w w.drew :=
  ⟨rfl, rfl, rfl, Nat.le_refl _, fun _ c _ _ h => ⟨c, h, rfl, fun _ _ => rfl⟩, fun _ _ h _ _ => h, fun _ es n h => ⟨es, n, h⟩, fun _ _ h _ _ => h⟩
def _root_.Go.World.putRow (w : World) (b : Nat) (c : Array Value) (e : TypeId) (fr : Nat × Nat) : World := { w with heap := w.heap.setIfInBounds b (.cells c e fr) }
theorem zck (w : World) (b : Nat) (c : Array Value) (e : TypeId) (fr : Nat × Nat) (k : Nat) :
    (w.putRow b c e fr).heap[k]? = if k = b ∧ b < w.heap.size then some (.cells c e fr) else w.heap[k]? := by
  simp only [World.putRow]
  rw [Array.getElem?_setIfInBounds]
  by_cases h : b = k
  · subst h; by_cases h2 : b < w.heap.size <;> simp [h2]
  · simp [h, Ne.symm h]
theorem Pres.putRow {A : Nat → Nat → Prop} {w : World} {b : Nat} {c c' : Array Value} {e : TypeId} {fr : Nat × Nat} (hb : w.heap[b]? = some (.cells c e fr))
    (hs : c'.size = c.size) (hc : ∀ o, ¬ A b o → c'[o]? = c[o]?) : Pres A w (w.putRow b c' e fr) := by
  have hlt : b < w.heap.size := (Array.getElem?_eq_some_iff.1 hb).1
  have oth : ∀ (k : Nat) (ob : Obj), w.heap[k]? = some ob → (∀ c e fr, ob ≠ Obj.cells c e fr) → (w.putRow b c' e fr).heap[k]? = some ob := fun k ob hk hn => by
    by_cases h : k = b
    · subst h; rw [hb] at hk; cases hk; exact (hn _ _ _ rfl).elim
    · rw [zck, if_neg (by simp [h])]; exact hk
  refine ⟨rfl, rfl, rfl, by simp [World.putRow], fun k d e' fr' hk => ?_, fun k ob hk hn _ => oth k ob hk hn, fun k es n hk => ⟨es, n, oth k _ hk (by intros; simp)⟩, fun k ob hk hn _ => oth k ob hk hn⟩
  · by_cases h : k = b
    · subst h
      rw [hb] at hk
      obtain ⟨rfl, rfl, rfl⟩ : c = d ∧ e = e' ∧ fr = fr' := by simpa using hk
      exact ⟨c', by rw [zck]; simp [hlt], hs, hc⟩
    · exact ⟨d, by rw [zck, if_neg (by simp [h])]; exact hk, rfl, fun _ _ => rfl⟩
def _root_.Go.World.putMap (w : World) (b : Nat) (es : Array MapEntry) (n : Nat) : World := { w with heap := w.heap.setIfInBounds b (.map es n) }
theorem zfw (w : World) (b : Nat) (es : Array MapEntry) (n : Nat) (k : Nat) :
    (w.putMap b es n).heap[k]? = if k = b ∧ b < w.heap.size then some (.map es n) else w.heap[k]? := by
  simp only [World.putMap]
  rw [Array.getElem?_setIfInBounds]
  by_cases h : b = k
  · subst h; by_cases h2 : b < w.heap.size <;> simp [h2]
  · simp [h, Ne.symm h]
theorem Pres.putMap {A : Nat → Nat → Prop} {w : World} {b : Nat} {es es' : Array MapEntry} {n n' : Nat} (hb : w.heap[b]? = some (.map es n)) (hA : A b 0) : Pres A w (w.putMap b es' n') := by
  have hlt : b < w.heap.size := (Array.getElem?_eq_some_iff.1 hb).1
  have key : ∀ (k : Nat) (ob : Obj), w.heap[k]? = some ob → k ≠ b → (w.putMap b es' n').heap[k]? = some ob := fun k ob hk h => by
    rw [zfw, if_neg (by simp [h])]; exact hk
  refine ⟨rfl, rfl, rfl, by simp [World.putMap], fun k d e' fr' hk => ?_, fun k ob hk hn hA' => ?_, fun k es0 n0 hk => ?_, fun k ob hk hn hm => ?_⟩
  · by_cases h : k = b
    · subst h; rw [hb] at hk; cases hk
    · exact ⟨d, key k _ hk h, rfl, fun _ _ => rfl⟩
  · by_cases h : k = b
    · subst h; exact (hA' hA).elim
    · exact key k ob hk h
  · by_cases h : k = b
    · subst h; exact ⟨es', n', by rw [zfw]; simp [hlt]⟩
    · exact ⟨es0, n0, key k _ hk h⟩
  · by_cases h : k = b
    · subst h; rw [hb] at hk; cases hk; exact (hm _ _ rfl).elim
    · exact key k ob hk h
def PV : AV → Value → Prop
  | .bool b, v => v = .bool b
  | .int k n, v => v = .int k n
  | .str b, v => v = .string b
  | .nilp, v => v = .pointer none
  | .nsl, v => ∃ a, v = .slice a 0 0
  | .nilI, v => v = .nilIface
  | .nilF, v => v = .nilFunc
  | .nilM, v => v = .map none
  | _, _ => False
inductive PVs : List AV → List Value → Prop
  | nil : PVs [] []
  | cons {c : AV} {v : Value} {cs : List AV} {vs : List Value} (h : PV c v) (hs : PVs cs vs) : PVs (c :: cs) (v :: vs)
theorem PVs.length {cs : List AV} {vs : List Value} (h : PVs cs vs) : cs.length = vs.length := by
  induction cs generalizing vs with
  | nil => cases h; rfl
  | cons c cs ih => cases h with | cons hv hs => simp [ih hs]
structure Mp where
  base : Nat → Nat × Nat
  ext : Nat → Nat
  B : Nat
  ban : Nat → Nat → Prop
  gl : Nat → Option Value
  tk : Nat → AV → Value → Prop
structure S where
  w : World
  heap : List (Nat × Blk)
  m : Mp
  tag : Nat
  next : Nat
def Own (s : S) (b o : Nat) : Prop := ∃ k blk, aget k s.heap = some blk ∧ (s.m.base k).1 = b ∧ (s.m.base k).2 ≤ o ∧ o < (s.m.base k).2 + s.m.ext k
def Held (s : S) (b o : Nat) : Prop := Own s b o ∨ s.m.ban b o
def Reads (s : S) (a : Addr) (vs : List Value) : Prop :=
  ∀ k v, vs[k]? = some v → s.w.cell? ⟨a.block, a.off + k, none⟩ = some v ∧ ¬ Held s a.block (a.off + k)
def SlOK (s : S) (site : Nat) (blk : Blk) (sz off len : Nat) (v : Value) : Prop :=
  off + len * sz ≤ blk.cells.length ∧
  ((∃ cap, v = .slice (some ⟨(s.m.base site).1, (s.m.base site).2 + off, none⟩) len cap ∧ len ≤ cap ∧ off + cap * sz ≤ s.m.ext site) ∨
   (len = 0 ∧ ∃ a, v = .slice a 0 0))
def isSlice (n : Nat) : Value → Prop
  | .slice _ n' cap => n' = n ∧ n ≤ cap
  | _ => False
def YRec (y : YInfo) (rec : Loop) : Prop := rec.params.toList = y.ps ∧ rec.assign = y.assign ∧ rec.body = y.body ∧ rec.tmps.size = y.nt
mutual
inductive VR (s : S) : AV → Value → Prop
  | junk (v : Value) : VR s .junk v
  | bool (b : Bool) : VR s (.bool b) (.bool b)
  | int (k : IntKind) (n : Int) : VR s (.int k n) (.int k n)
  | str (b : ByteArray) : VR s (.str b) (.string b)
  | nilp : VR s .nilp (.pointer none)
  | ref {site : Nat} {σ : Nat × Nat} {o b o' : Nat} (h : okS s.tag s.next σ)
      (hl : ∀ blk, aget site s.heap = some blk → blk.stamp = σ → b = (s.m.base site).1 ∧ o' = (s.m.base site).2 + o) : VR s (.ref site σ o) (.pointer (some ⟨b, o', none⟩))
  | msl {site : Nat} {σ : Nat × Nat} {sz off len : Nat} {v : Value} (h : okS s.tag s.next σ) (hv : isSlice len v)
      (hl : ∀ blk, aget site s.heap = some blk → blk.stamp = σ → SlOK s site blk sz off len v) : VR s (.msl site σ sz off len) v
  | isl {sz n cap : Nat} {cells : List AV} {a : Addr} {vs : List Value} (ha : a.spot = none) (hcap : n ≤ cap) (hlen : cells.length = n * sz) (hr : Reads s a vs) (hv : VRs s true cells vs) : VR s (.isl sz n cells) (.slice (some a) n cap)
  | islnil {sz : Nat} {a : Option Addr} {cap : Nat} : VR s (.isl sz 0 []) (.slice a 0 cap)
  | fsl {sz n cap b o : Nat} {cells : List AV} {vs : List Value} {cs : Array Value} {e : TypeId} {fr : Nat × Nat} (hB : s.m.B ≤ b) (hb : s.w.heap[b]? = some (.cells cs e fr)) (hsz : o + cap * sz ≤ cs.size)
      (hcap : n ≤ cap) (hlen : cells.length = n * sz) (hv : PVs cells vs) (hc : ∀ (j : Nat) (v : Value), vs[j]? = some v → cs[o + j]? = some v)
      (hf : ∀ k, o ≤ k → k < o + cap * sz → ¬ (fr.1 ≤ k ∧ k < fr.2) ∧ ¬ Held s b k) : VR s (.fsl sz n cells) (.slice (some ⟨b, o, none⟩) n cap)
  | fslnil {sz : Nat} {a : Option Addr} : VR s (.fsl sz 0 []) (.slice a 0 0)
  | nsl {a : Option Addr} : VR s .nsl (.slice a 0 0)
  | ipt {cells : List AV} {a : Addr} {vs : List Value} (ha : a.spot = none) (hr : Reads s a vs) (hv : VRs s true cells vs) : VR s (.ipt cells) (.pointer (some a))
  | agg {cells : List AV} {vs : List Value} (hv : VRs s true cells vs) : VR s (.agg cells) (.agg vs.toArray)
  | tup {cells : List AV} {vs : List Value} (hv : VRs s false cells vs) : VR s (.tup cells) (.tuple vs.toArray)
  | nilI : VR s .nilI .nilIface
  | nilF : VR s .nilF .nilFunc
  | nilM : VR s .nilM (.map none)
  | gref (g : Nat) : VR s (.gref g) (.pointer (some ⟨g, 0, none⟩))
  | err {g T : Nat} {a : Addr} (h : s.m.gl g = some (.iface T (.pointer (some a)))) : VR s (.err g) (.iface T (.pointer (some a)))
  | mref {site : Nat} {σ : Nat × Nat} {b : Nat} (h : okS s.tag s.next σ) (hl : ∀ blk, aget site s.heap = some blk → blk.stamp = σ → b = (s.m.base site).1) : VR s (.mref site σ) (.map (some b))
  | fn {f : Nat} {cells : List AV} {vs : List Value} (hv : VRs s true cells vs) : VR s (.fn f cells) (.func (.func f) #[] vs.toArray)
  | yld {y : YInfo} {l : Nat} {cells : List AV} {rec : Loop} (hl : s.w.heap[l]? = some (.loop rec)) (h1 : rec.state = .ready) (h2 : rec.pending = none) (h3 : YRec y rec) (hv : VRs s true cells (y.slots.map fun k => rec.tmps.getD k undef)) : VR s (.yld y cells) (.func (.yield l) #[] #[])
  | imp {r n : Nat} {ks vs : List AV} {es : Array MapEntry} (hm : s.w.heap[r]? = some (.map es n)) (hr : ¬ Held s r 0) (hk : VRs s false ks (es.toList.map (·.key))) (hv : VRs s false vs (es.toList.map (·.val))) (tk : ks.all AV.top = true) (tv : vs.all AV.top = true) : VR s (.imp ks vs) (.map (some r))
  | veil {t : Nat} {v : AV} {x : Value} (h : s.m.tk t v x) (h1 : x.oneCell' = true) : VR s (.veil t v) x
inductive VRs (s : S) : Bool → List AV → List Value → Prop
  | nil (one : Bool) : VRs s one [] []
  | cons {one : Bool} {c : AV} {v : Value} {cells : List AV} {vs : List Value} (h1 : one = true → v.oneCell' = true ∧ c.top = true) (h : VR s c v) (hs : VRs s one cells vs) : VRs s one (c :: cells) (v :: vs)
end
structure Later (s s' : S) : Prop where
  pres : Pres (Own s) s.w s'.w
  own : ∀ b o, b < s.w.heap.size → Own s' b o → Own s b o
  live : ∀ site blk', aget site s'.heap = some blk' → okS s.tag s.next blk'.stamp →
    ∃ blk, aget site s.heap = some blk ∧ blk.stamp = blk'.stamp ∧ s'.m.base site = s.m.base site ∧ s'.m.ext site = s.m.ext site ∧ blk.cells.length = blk'.cells.length
  ok : ∀ σ, okS s.tag s.next σ → okS s'.tag s'.next σ
  ban : ∀ b o, b < s.w.heap.size → s'.m.ban b o → Held s b o
  gl : s'.m.gl = s.m.gl
  tk : s'.m.tk = s.m.tk
theorem zhh {w : World} {b o : Nat} {v : Value} (h : w.cell? ⟨b, o, none⟩ = some v) : ∃ c e fr, w.heap[b]? = some (.cells c e fr) ∧ c[o]? = some v := by
  unfold World.cell? at h
  simp only [] at h
  split at h
  · rename_i c e fr heq
    exact ⟨c, e, fr, heq, by simpa using h⟩
  · cases h
theorem zax {w : World} {b o : Nat} {c : Array Value} {e : TypeId} {fr : Nat × Nat} (h : w.heap[b]? = some (.cells c e fr)) : w.cell? ⟨b, o, none⟩ = c[o]? := by
  simp [World.cell?, h]
theorem Later.held {s s' : S} (h : Later s s') {b o : Nat} (hb : b < s.w.heap.size) (ho : Held s' b o) : Held s b o :=
  ho.elim (fun x => .inl (h.own b o hb x)) (fun x => h.ban b o hb x)
theorem Later.cell {s s' : S} (h : Later s s') {b o : Nat} {v : Value} (hc : s.w.cell? ⟨b, o, none⟩ = some v) (hn : ¬ Held s b o) :
    s'.w.cell? ⟨b, o, none⟩ = some v ∧ ¬ Held s' b o := by
  obtain ⟨c, e, fr, hb, ho⟩ := zhh hc
  obtain ⟨c', hb', _, hk⟩ := h.pres.cells b c e fr hb
  have hlt : b < s.w.heap.size := (Array.getElem?_eq_some_iff.1 hb).1
  exact ⟨by rw [zax hb', hk o (fun x => hn (.inl x)), ho], fun hx => hn (h.held hlt hx)⟩
theorem Later.reads {s s' : S} (h : Later s s') {a : Addr} {vs : List Value} (hr : Reads s a vs) : Reads s' a vs :=
  fun k v hk => h.cell (hr k v hk).1 (hr k v hk).2
theorem Later.fsl {s s' : S} (h : Later s s') (ht : s'.m.B ≤ s.m.B) {sz n cap b o : Nat} {cells : List AV} {vs : List Value} {cs : Array Value} {e : TypeId} {fr : Nat × Nat} (hB : s.m.B ≤ b) (hb : s.w.heap[b]? = some (.cells cs e fr)) (hsz : o + cap * sz ≤ cs.size)
    (hcap : n ≤ cap) (hlen : cells.length = n * sz) (hv : PVs cells vs) (hc : ∀ (j : Nat) (v : Value), vs[j]? = some v → cs[o + j]? = some v)
    (hf : ∀ k, o ≤ k → k < o + cap * sz → ¬ (fr.1 ≤ k ∧ k < fr.2) ∧ ¬ Held s b k) : VR s' (.fsl sz n cells) (.slice (some ⟨b, o, none⟩) n cap) := by
  obtain ⟨cs', k1, k2, k3⟩ := h.pres.cells b cs e fr hb
  have hlt : b < s.w.heap.size := (Array.getElem?_eq_some_iff.1 hb).1
  have hlv := hv.length
  have hle : n * sz ≤ cap * sz := Nat.mul_le_mul_right _ hcap
  refine .fsl (Nat.le_trans ht hB) k1 (by rw [k2]; exact hsz) hcap hlen hv (fun j v hj => ?_) (fun k k4 k5 => ⟨(hf k k4 k5).1, fun ho => (hf k k4 k5).2 (h.held hlt ho)⟩)
  have hj' := (List.getElem?_eq_some_iff.1 hj).1
  rw [k3 _ (fun x => (hf (o + j) (by omega) (by omega)).2 (.inl x))]
  exact hc j v hj
mutual
theorem VR.move {s s' : S} (h : Later s s') : ∀ {c : AV} {v : Value}, (s'.m.B ≤ s.m.B ∨ c.top = true) → VR s c v → VR s' c v
  | _, _, _, .junk v => .junk v
  | _, _, _, .bool b => .bool b
  | _, _, _, .int k n => .int k n
  | _, _, _, .str b => .str b
  | _, _, _, .nilp => .nilp
  | _, _, _, .ref hok hl => .ref (h.ok _ hok) fun blk' hb hs => by
      obtain ⟨blk, h1, h2, h3, _, _⟩ := h.live _ blk' hb (hs ▸ hok)
      rw [h3]; exact hl blk h1 (h2.trans hs)
  | _, _, _, .msl hok hv hl => .msl (h.ok _ hok) hv fun blk' hb hs => by
      obtain ⟨blk, h1, h2, h3, h4, h5⟩ := h.live _ blk' hb (hs ▸ hok)
      have := hl blk h1 (h2.trans hs)
      unfold SlOK at *
      rw [h3, h4, ← h5]; exact this
  | _, _, _, .isl ha hcap hlen hr hv => .isl ha hcap hlen (h.reads hr) (hv.mv h (.inr (.inl rfl)))
  | _, _, _, .islnil => .islnil
  | _, _, ht, .fsl hB hb hsz hcap hlen hv hc hf => ht.elim (fun e => h.fsl e hB hb hsz hcap hlen hv hc hf) (fun x => by cases x)
  | _, _, _, .fslnil => .fslnil
  | _, _, _, .nsl => .nsl
  | _, _, _, .ipt ha hr hv => .ipt ha (h.reads hr) (hv.mv h (.inr (.inl rfl)))
  | _, _, _, .agg hv => .agg (hv.mv h (.inr (.inl rfl)))
  | _, _, ht, .tup hv => .tup (hv.mv h (ht.imp id (fun x => by cases x)))
  | _, _, _, .nilI => .nilI
  | _, _, _, .nilF => .nilF
  | _, _, _, .nilM => .nilM
  | _, _, _, .gref g => .gref g
  | _, _, _, .err hg => .err (by rw [h.gl]; exact hg)
  | _, _, _, .mref hok hl => .mref (h.ok _ hok) fun blk' hb hs => by
      obtain ⟨blk, h1, h2, h3, _, _⟩ := h.live _ blk' hb (hs ▸ hok)
      rw [h3]; exact hl blk h1 (h2.trans hs)
  | _, _, _, .fn hv => .fn (hv.mv h (.inr (.inl rfl)))
  | _, _, _, .imp (r := r) hm hr hk hv tk tv => .imp (h.pres.other _ _ hm (by intros; simp) fun x => hr (.inl x)) (fun x => hr (h.held (Array.getElem?_eq_some_iff.1 hm).1 x)) (hk.mv h (.inr (.inr tk))) (hv.mv h (.inr (.inr tv))) tk tv
  | _, _, _, .yld hl h1 h2 h3 hv => .yld (h.pres.rest _ _ hl (by intros; simp) (by intros; simp)) h1 h2 h3 (hv.mv h (.inr (.inl rfl)))
  | _, _, _, .veil ht h1 => .veil (by rw [h.tk]; exact ht) h1
theorem VRs.mv {s s' : S} (h : Later s s') : ∀ {one : Bool} {cs : List AV} {vs : List Value}, (s'.m.B ≤ s.m.B ∨ one = true ∨ cs.all AV.top = true) → VRs s one cs vs → VRs s' one cs vs
  | _, _, _, _, .nil _ => .nil _
  | _, _, _, ht, .cons h1 hv hs => .cons h1 (hv.move h (ht.elim .inl fun e => e.elim (fun e => .inr (h1 e).2) fun e => .inr (by rw [List.all_cons, qO5] at e; exact e.1)))
      (hs.mv h (ht.elim .inl fun e => e.elim (fun e => .inr (.inl e)) fun e => .inr (.inr (by rw [List.all_cons, qO5] at e; exact e.2))))
end
theorem VRs.move {s s' : S} (h : Later s s') {one : Bool} {cs : List AV} {vs : List Value} (ht : s'.m.B ≤ s.m.B ∨ one = true) (hv : VRs s one cs vs) : VRs s' one cs vs := hv.mv h (ht.imp id .inl)
theorem VRs.later {s s' : S} (h : Later s s') {cs : List AV} {vs : List Value} (hv : VRs s true cs vs) : VRs s' true cs vs := hv.move h (.inr rfl)
theorem VRs.length {s : S} {one : Bool} {cs : List AV} {vs : List Value} (h : VRs s one cs vs) : cs.length = vs.length := by
  induction cs generalizing vs with
  | nil => cases h; rfl
  | cons c cs ih => cases h with | cons _ _ hs => simp [ih hs]
theorem VRs.get {s : S} {one : Bool} {cs : List AV} {vs : List Value} (h : VRs s one cs vs) {k : Nat} {c : AV} (hk : cs[k]? = some c) : ∃ v, vs[k]? = some v ∧ VR s c v ∧ (one = true → v.oneCell' = true ∧ c.top = true) := by
  induction cs generalizing vs k with
  | nil => simp at hk
  | cons c' cs ih =>
    cases h with
    | cons h1 hv hs =>
      cases k with
      | zero => simp at hk; subst hk; exact ⟨_, by simp, hv, h1⟩
      | succ k => simp at hk; obtain ⟨v, g1, g2⟩ := ih hs hk; exact ⟨v, by simpa using g1, g2⟩
theorem VRs.one {s : S} {cs : List AV} {vs : List Value} (h : VRs s true cs vs) : ∀ v ∈ vs, v.oneCell' = true := by
  induction cs generalizing vs with
  | nil => cases h; simp
  | cons c cs ih =>
    cases h with
    | cons h1 hv hs => intro v hm; cases hm with
      | head => exact (h1 rfl).1
      | tail _ hm => exact ih hs v hm
theorem VRs.append {s : S} {one : Bool} {cs ds : List AV} {vs us : List Value} (h : VRs s one cs vs) (k : VRs s one ds us) : VRs s one (cs ++ ds) (vs ++ us) := by
  induction cs generalizing vs with
  | nil => cases h; simpa using k
  | cons c cs ih => cases h with | cons h1 hv hs => exact .cons h1 hv (ih hs)
theorem VRs.drop {s : S} {one : Bool} {cs : List AV} {vs : List Value} (h : VRs s one cs vs) (n : Nat) : VRs s one (cs.drop n) (vs.drop n) := by
  induction n generalizing cs vs with
  | zero => simpa using h
  | succ n ih => cases h with
    | nil => simpa using VRs.nil one
    | cons _ _ hs => simpa using ih hs
theorem VRs.take {s : S} {one : Bool} {cs : List AV} {vs : List Value} (h : VRs s one cs vs) (n : Nat) : VRs s one (cs.take n) (vs.take n) := by
  induction n generalizing cs vs with
  | zero => simpa using VRs.nil one
  | succ n ih => cases h with
    | nil => simpa using VRs.nil one
    | cons h1 hv hs => simpa using VRs.cons h1 hv (ih hs)
theorem VRs.setR {s : S} {cs ds : List AV} {vs us : List Value} (h : VRs s true cs vs) (k : VRs s true ds us) (o : Nat) :
    VRs s true (Sim.setR cs o ds) (vs.take o ++ us ++ vs.drop (o + us.length)) := by
  unfold Sim.setR
  rw [k.length]
  exact ((h.take o).append k).append (h.drop _)
theorem VRs.map {s : S} {one : Bool} {α : Type} (f : α → AV) (g : α → Value) (l : List α) (h : ∀ x ∈ l, VR s (f x) (g x)) (h1 : one = true → ∀ x ∈ l, (g x).oneCell' = true ∧ (f x).top = true) :
    VRs s one (l.map f) (l.map g) := by
  induction l with
  | nil => exact .nil _
  | cons x l ih => exact .cons (fun e => h1 e x (by simp)) (h x (by simp)) (ih (fun y hy => h y (by simp [hy])) (fun e y hy => h1 e y (by simp [hy])))
theorem VR.pv {s : S} {c : AV} {v : Value} (h : VR s c v) (hp : c.plain = true) : PV c v := by
  cases h <;> first | rfl | exact ⟨_, rfl⟩ | (simp [AV.plain] at hp; done)
theorem PV.vr {c : AV} {v : Value} (h : PV c v) (s : S) : VR s c v ∧ v.oneCell' = true ∧ c.top = true := by
  cases c <;> simp only [PV] at h <;> first
    | (subst h; exact ⟨.bool _, rfl, rfl⟩) | (subst h; exact ⟨.int _ _, rfl, rfl⟩) | (subst h; exact ⟨.str _, rfl, rfl⟩) | (subst h; exact ⟨.nilp, rfl, rfl⟩)
    | (obtain ⟨a, rfl⟩ := h; exact ⟨.nsl, rfl, rfl⟩) | (subst h; exact ⟨.nilM, rfl, rfl⟩) | (subst h; exact ⟨.nilI, rfl, rfl⟩) | (subst h; exact ⟨.nilF, rfl, rfl⟩) | exact h.elim
theorem VRs.pvs {s : S} {one : Bool} {cs : List AV} {vs : List Value} (h : VRs s one cs vs) (hp : cs.all AV.plain = true) : PVs cs vs := by
  induction cs generalizing vs with
  | nil => cases h; exact .nil
  | cons c cs ih =>
    simp only [List.all_cons, qO5] at hp
    cases h with | cons h1 hv hs => exact .cons (hv.pv hp.1) (ih hs hp.2)
theorem PVs.vrs {cs : List AV} {vs : List Value} (h : PVs cs vs) (s : S) (one : Bool) : VRs s one cs vs := by
  induction cs generalizing vs with
  | nil => cases h; exact .nil _
  | cons c cs ih => cases h with | cons hv hs => exact .cons (fun _ => (hv.vr s).2) (hv.vr s).1 (ih hs)
theorem VR.fsl_isl {s : S} {sz n : Nat} {cells : List AV} {x : Value} (h : VR s (.fsl sz n cells) x) : VR s (.isl sz n cells) x := by
  cases h with
  | fsl hB hb hsz hcap hlen hv hc hf =>
    rename_i cap b o vs cs e fr
    refine .isl (vs := vs) rfl hcap hlen (fun k u hk => ⟨by rw [zax hb]; exact hc k u hk, ?_⟩) ?_
    · have h1 := (List.getElem?_eq_some_iff.1 hk).1
      have h2 := hv.length
      have h3 : n * sz ≤ cap * sz := Nat.mul_le_mul_right _ hcap
      exact (hf (o + k) (by omega) (by omega)).2
    · exact hv.vrs s true
  | fslnil => exact .islnil
theorem VR.cells {s : S} {c : AV} {v : Value} (h : VR s c v) (hs : c.solid = true) : VRs s true c.cells v.cells.toList := by
  have h' := h
  cases h with
  | junk => simp [AV.solid] at hs
  | tup => simp [AV.solid] at hs
  | yld => simp [AV.solid] at hs
  | agg hv => simpa [AV.cells, Value.cells] using hv
  | msl hok hv hl =>
    rename_i site σ sz off len
    cases v <;> simp only [isSlice] at hv
    exact .cons (fun _ => ⟨rfl, rfl⟩) h' (.nil _)
  | fsl => exact .cons (fun _ => ⟨rfl, rfl⟩) h'.fsl_isl (.nil _)
  | fslnil => exact .cons (fun _ => ⟨rfl, rfl⟩) .islnil (.nil _)
  | veil ht h1 =>
    have : v.cells = #[v] := by cases v <;> first | rfl | (simp [Value.oneCell'] at h1; done)
    rw [this]
    exact .cons (fun _ => ⟨h1, rfl⟩) h' (.nil _)
  | _ => exact .cons (fun _ => ⟨rfl, rfl⟩) h' (.nil _)
structure Cx where
  w0 : World
  A : Nat → Nat → Prop
  np : Nat
  lb : Nat → Nat × Nat
  le : Nat → Nat
  bn : Nat → Nat → Prop
  gl : Nat → Option Value
  tk : Nat → AV → Value → Prop
def GlobC (c : Cx) : Prop := ∀ g v, c.gl g = some v → (c.w0.cell? ⟨g, 0, none⟩ = some v ∧ ¬ c.A g 0 ∧ ¬ c.bn g 0) ∧ ∀ T a, v = .iface T (.pointer (some a)) → ∃ cs e, c.w0.heap[a.block]? = some (.cells cs e (0, 0))
def errG (P : Program) (g : Nat) : Bool := match P.globals[g]? with
  | some x => match P.underlying x.type with
    | some (.interface _) => true
    | _ => false
  | none => false
structure GlobP (P : Program) (gl : Nat → Option Value) : Prop where
  shape : ∀ g0 v0, gl g0 = some v0 → ∃ (T te : Nat) (i j : TypeInfo), P.underlying T = some (.pointer te) ∧ P.info? T = some i ∧ i.comparable = true ∧ P.info? te = some j ∧ j.size = 1 ∧ ∀ g v, gl g = some v → ∃ a, v = .iface T (.pointer (some a))
  inj : ∀ g g' v, gl g = some v → gl g' = some v → g = g'
  all : ∀ g, errG P g = true → ∃ v, gl g = some v
def GlobS (s : S) : Prop := ∀ g v, s.m.gl g = some v → (s.w.cell? ⟨g, 0, none⟩ = some v ∧ ¬ Held s g 0) ∧ ∀ T a, v = .iface T (.pointer (some a)) → ∃ cs e, s.w.heap[a.block]? = some (.cells cs e (0, 0))
def CellsOK (c : Cx) (s : S) (k : Nat) (b : Blk) : Prop :=
  (b.cells = [] ∧ s.m.ext k = 0) ∨
  ∃ (cs : Array Value) (e : TypeId) (fr : Nat × Nat), s.w.heap[(s.m.base k).1]? = some (.cells cs e fr) ∧ (s.m.base k).2 + s.m.ext k ≤ cs.size ∧ b.cells.length ≤ s.m.ext k ∧ (c.np ≤ k → k < 1000000 → c.w0.heap.size ≤ (s.m.base k).1) ∧
    (∀ o, (s.m.base k).2 ≤ o → o < (s.m.base k).2 + s.m.ext k → ¬ (fr.1 ≤ o ∧ o < fr.2) ∧ (c.w0.heap.size ≤ (s.m.base k).1 ∨ c.A (s.m.base k).1 o)) ∧
    ∃ vs, VRs s true b.cells vs ∧ ∀ j v, vs[j]? = some v → cs[(s.m.base k).2 + j]? = some v
def MapOK (c : Cx) (s : S) (k : Nat) (b : Blk) : Prop :=
  ∃ (ks vs : List AV) (es : Array MapEntry) (n : Nat), b.cells = [.mapd ks vs] ∧ s.w.heap[(s.m.base k).1]? = some (.map es n) ∧ (s.m.base k).2 = 0 ∧ s.m.ext k = 1 ∧
    (c.w0.heap.size ≤ (s.m.base k).1 ∨ c.A (s.m.base k).1 0) ∧ VRs s false ks (es.toList.map (·.key)) ∧ VRs s false vs (es.toList.map (·.val)) ∧ ks.all AV.top = true ∧ vs.all AV.top = true
def BlkOK (c : Cx) (s : S) (k : Nat) (b : Blk) : Prop :=
  okS s.tag s.next b.stamp ∧ (b.stamp = (s.tag, 0) → s.m.base k = c.lb k ∧ s.m.ext k = c.le k) ∧ (if isMapKey k then MapOK c s k b else CellsOK c s k b)
def Marks (B : Nat) (w : World) (ds : List Deferred) : Prop := ∃ Ds : List Nat, ds = Ds.map (fun D => { target := .collected D, args := #[] }) ∧ Ds.Nodup ∧ ∀ D ∈ Ds, B ≤ D ∧ w.heap[D]? = some (.deferred (some []))
theorem Marks.pres {A : Nat → Nat → Prop} {B : Nat} {w w' : World} {ds : List Deferred} (h : Marks B w ds) (hp : Pres A w w') : Marks B w' ds := by
  obtain ⟨Ds, h1, h2, h3⟩ := h
  exact ⟨Ds, h1, h2, fun D hD => ⟨(h3 D hD).1, hp.rest _ _ (h3 D hD).2 (by intros; simp) (by intros; simp)⟩⟩
theorem Marks.nil {B : Nat} {w : World} : Marks B w [] := ⟨[], rfl, List.nodup_nil, fun _ h => by cases h⟩
structure RelM (c : Cx) (nt : Nat) (st : St) (a : Act) (w : World) (m : Mp) : Prop where
  defers : Marks c.w0.heap.size w a.defers
  size : a.tmps.size = nt
  next1 : 1 ≤ st.next
  mB : m.B = c.w0.heap.size ∧ (∀ b o, m.ban b o → b < c.w0.heap.size) ∧ m.ban = c.bn ∧ m.gl = c.gl ∧ GlobC c ∧ m.tk = c.tk
  env : ∀ k v, aget k st.env = some v → VR ⟨w, st.heap, m, st.tag, st.next⟩ v (a.tmps.getD k undef)
  pres : Pres c.A c.w0 w
  blk : ∀ k b, aget k st.heap = some b → BlkOK c ⟨w, st.heap, m, st.tag, st.next⟩ k b
  apart : ∀ k j b b', k ≠ j → aget k st.heap = some b → aget j st.heap = some b' → (m.base k).1 = (m.base j).1 →
    ∀ o, ¬ ((m.base k).2 ≤ o ∧ o < (m.base k).2 + m.ext k ∧ (m.base j).2 ≤ o ∧ o < (m.base j).2 + m.ext j)
abbrev At (st : St) (w : World) (m : Mp) : S := ⟨w, st.heap, m, st.tag, st.next⟩
theorem RelM.gp {P : Program} {c : Cx} {nt : Nat} {st : St} {a : Act} {w : World} {m : Mp} (h : RelM c nt st a w m) (hG : GlobP P c.gl) : GlobP P m.gl := by
  rw [h.mB.2.2.2.1]; exact hG
structure GlobK (P : Program) (K : Ann) (c : Cx) : Prop where
  gp : GlobP P c.gl
  rd : ∀ g, (aget (1000000000 + g) K.reads).isSome = true → errG P g = true
theorem GlobS.later {s s' : S} (hg : GlobS s) (h : Later s s') : GlobS s' := by
  intro g v hv
  rw [h.gl] at hv
  obtain ⟨⟨h1, h2⟩, h3⟩ := hg g v hv
  refine ⟨h.cell h1 h2, fun T a e => ?_⟩
  obtain ⟨cs, e', hb⟩ := h3 T a e
  obtain ⟨c', hb', _⟩ := h.pres.cells _ cs e' (0, 0) hb
  exact ⟨c', e', hb'⟩
theorem RelM.ownA {c : Cx} {nt : Nat} {st : St} {a : Act} {w : World} {m : Mp} (h : RelM c nt st a w m) {b o : Nat} (ho : Own (At st w m) b o) : c.w0.heap.size ≤ b ∨ c.A b o := by
  obtain ⟨k, blk, h1, h2, h3, h4⟩ := ho
  obtain ⟨_, _, h5⟩ := h.blk k blk h1
  simp only at h1 h2 h3 h4
  split at h5
  · obtain ⟨ks, vs, es, n, _, _, g3, g4, g5, _⟩ := h5
    simp only at g3 g4 g5
    rw [g3] at h3 h4
    rw [g4] at h4
    obtain rfl : o = 0 := by omega
    rw [← h2]; exact g5
  · rcases h5 with ⟨_, g⟩ | ⟨cs, e, fr, _, _, _, _, g5, _⟩
    · simp only at g
      rw [g] at h4; omega
    · rw [← h2]; exact (g5 o h3 h4).2
theorem RelM.globs {c : Cx} {nt : Nat} {st : St} {a : Act} {w : World} {m : Mp} (h : RelM c nt st a w m) : GlobS (At st w m) := by
  intro g v hg
  have hg' : c.gl g = some v := by rw [← h.mB.2.2.2.1]; exact hg
  obtain ⟨⟨h1, h2, h3⟩, h4⟩ := h.mB.2.2.2.2.1 g v hg'
  refine ⟨?_, fun T ad e => ?_⟩
  · obtain ⟨cs, e, fr, hb, ho⟩ := zhh h1
    obtain ⟨c', hb', _, hk⟩ := h.pres.cells g cs e fr hb
    have hlt : g < c.w0.heap.size := (Array.getElem?_eq_some_iff.1 hb).1
    refine ⟨by show w.cell? _ = _; rw [zax hb', hk 0 h2, ho], fun hx => ?_⟩
    rcases hx with hx | hx
    · rcases h.ownA hx with q | q
      · omega
      · exact h2 q
    · exact h3 (by rw [← h.mB.2.2.1]; exact hx)
  · obtain ⟨cs, e', hb⟩ := h4 T ad e
    obtain ⟨c', hb', _, _⟩ := h.pres.cells _ cs e' (0, 0) hb
    exact ⟨c', e', hb'⟩
theorem zfz (s : S) (v : Value) : VR s (ofScalar v) v := by
  unfold ofScalar
  split <;> first | exact .bool _ | exact .int _ _ | exact .str _ | exact .nilp | exact .nsl | exact .nilI | exact .nilF | exact .nilM | exact .junk _
theorem znt (v : Value) (h : ofScalar v ≠ .junk) : v.oneCell' = true ∧ (ofScalar v).top = true := by
  unfold ofScalar at *
  split at h <;> first | exact ⟨rfl, rfl⟩ | exact (h rfl).elim
theorem zcb (s : S) : ∀ (l : List Value) (cs : List AV), ofCells l = some cs → VRs s true cs l
  | [], cs, h => by simp [ofCells] at h; subst h; exact .nil _
  | v :: l, cs, h => by
    have hv := zfz s v
    have h1 := znt v
    unfold ofCells at h
    generalize ofScalar v = x at *
    split at h
    · cases h
    · rename_i hx
      cases hl : ofCells l with
      | none => simp [hl] at h
      | some ds =>
        simp [hl] at h
        subst h
        exact .cons (fun _ => h1 (by simpa using hx)) hv (zcb s l ds hl)
theorem ofConst_ok (s : S) (v : Value) : VR s (ofConst v) v := by
  unfold ofConst
  split
  · rename_i cs
    split
    · rename_i l hl; exact .agg (vs := cs.toList) (zcb s _ _ hl)
    · exact .junk _
  · rename_i vs
    exact .tup (vs := vs.toList) (by
      have := VRs.map (s := s) (one := false) ofScalar id vs.toList (fun x _ => zfz s x) (by simp)
      simpa using this)
  · exact zfz s v
theorem za6 {c : Cx} {nt : Nat} {st : St} {a : Act} {w : World} {m : Mp} (h : RelM c nt st a w m) (x : Operand) : VR (At st w m) (operand st x) (a.eval x) := by
  cases x with
  | tmp t =>
    simp only [operand, Act.eval]
    cases ht : aget t st.env with
    | none => exact .junk _
    | some v => exact h.env t v ht
  | const v =>
    simp only [operand, Act.eval]
    exact ofConst_ok _ v
  | global g => exact .gref g
  | func f => exact .fn (vs := []) (.nil _)
def Mp.set (m : Mp) (k : Nat) (base : Nat × Nat) (ext : Nat) : Mp := { base := fun j => if j = k then base else m.base j, ext := fun j => if j = k then ext else m.ext j, B := m.B, ban := m.ban, gl := m.gl, tk := m.tk }
def In (st : St) (m : Mp) (k : Nat) (b o : Nat) : Prop := (∃ b0, aget k st.heap = some b0) ∧ (m.base k).1 = b ∧ (m.base k).2 ≤ o ∧ o < (m.base k).2 + m.ext k
structure Turn (st : St) (w : World) (m : Mp) (k : Nat) (b' : Blk) (n' : Nat) (w' : World) (base' : Nat × Nat) (ext' : Nat) : Prop where
  pres : Pres (In st m k) w w'
  next : st.next ≤ n'
  reg : ext' = 0 ∨ w.heap.size ≤ base'.1 ∨ ((∃ b0, aget k st.heap = some b0) ∧ base'.1 = (m.base k).1 ∧ (m.base k).2 ≤ base'.2 ∧ base'.2 + ext' ≤ (m.base k).2 + m.ext k)
  stamp : (∃ b0, aget k st.heap = some b0 ∧ b0.stamp = b'.stamp ∧ base' = m.base k ∧ ext' = m.ext k ∧ b0.cells.length = b'.cells.length) ∨ ¬ okS st.tag st.next b'.stamp
def turned (st : St) (k : Nat) (b' : Blk) (n' : Nat) : St := { st with heap := aput k b' st.heap, next := n' }
theorem In.own {st : St} {w : World} {m : Mp} {k b o : Nat} (h : In st m k b o) : Own (At st w m) b o :=
  let ⟨⟨b0, h0⟩, h1, h2, h3⟩ := h; ⟨k, b0, h0, h1, h2, h3⟩
theorem Turn.later {st : St} {w : World} {m : Mp} {k : Nat} {b' : Blk} {n' : Nat} {w' : World} {base' : Nat × Nat} {ext' : Nat} (h : Turn st w m k b' n' w' base' ext') :
    Later (At st w m) (At (turned st k b' n') w' (m.set k base' ext')) := by
  refine ⟨h.pres.mono fun b o _ hi => hi.own, fun b o hb ho => ?_, fun site blk' hs hok => ?_, fun σ hσ => zez hσ h.next, fun b o _ hb => .inr hb, rfl, rfl⟩
  · obtain ⟨j, bj, hj, h1, h2, h3⟩ := ho
    simp only [turned, zan, Mp.set] at hj h1 h2 h3
    by_cases e : k = j
    · subst e
      simp only [if_true] at h1 h2 h3
      rcases h.reg with hr | hr | ⟨⟨b0, hb0⟩, r1, r2, r3⟩
      · omega
      · simp only [] at hb; omega
      · exact ⟨k, b0, hb0, by simp only []; omega, by simp only []; omega, by simp only []; omega⟩
    · simp only [if_neg e, if_neg (Ne.symm e)] at hj h1 h2 h3
      exact ⟨j, bj, hj, h1, h2, h3⟩
  · simp only [turned, zan] at hs
    by_cases e : k = site
    · subst e
      simp only [if_true, qO1] at hs
      subst hs
      rcases h.stamp with ⟨b0, h0, h1, h2, h3, h4⟩ | hn
      · exact ⟨b0, h0, h1, by simp [Mp.set, h2], by simp [Mp.set, h3], h4⟩
      · exact (hn hok).elim
    · simp only [if_neg e] at hs
      exact ⟨blk', hs, rfl, by simp [Mp.set, Ne.symm e], by simp [Mp.set, Ne.symm e], rfl⟩
theorem BlkOK.lt {c : Cx} {s : S} {k : Nat} {b : Blk} (h : BlkOK c s k b) : s.m.ext k = 0 ∨ (s.m.base k).1 < s.w.heap.size := by
  obtain ⟨_, _, h⟩ := h
  split at h
  · obtain ⟨ks, vs, es, n, _, h, _⟩ := h
    exact .inr (Array.getElem?_eq_some_iff.1 h).1
  · rcases h with h | ⟨cs, e, fr, h, _⟩
    · exact .inl h.2
    · exact .inr (Array.getElem?_eq_some_iff.1 h).1
theorem BlkOK.mine {c : Cx} {s : S} {k : Nat} {b : Blk} (h : BlkOK c s k b) {o : Nat} (h1 : (s.m.base k).2 ≤ o) (h2 : o < (s.m.base k).2 + s.m.ext k) : c.w0.heap.size ≤ (s.m.base k).1 ∨ c.A (s.m.base k).1 o := by
  obtain ⟨_, _, h⟩ := h
  split at h
  · obtain ⟨ks, vs, es, n, _, _, g1, g2, g3, _⟩ := h
    have : o = 0 := by omega
    subst this
    exact g3
  · rcases h with h | ⟨cs, e, fr, _, _, _, _, g, _⟩
    · omega
    · exact (g o h1 h2).2
theorem BlkOK.fits {c : Cx} {s : S} {k : Nat} {b : Blk} (h : BlkOK c s k b) : b.cells.length ≤ s.m.ext k := by
  obtain ⟨_, _, h⟩ := h
  split at h
  · obtain ⟨ks, vs, es, n, g0, _, g1, g2, g3, _⟩ := h
    rw [g0, g2]; exact Nat.le_refl _
  · rcases h with h | ⟨cs, e, fr, _, _, g, _⟩
    · rw [h.1]; exact Nat.zero_le _
    · exact g
theorem BlkOK.keep {c : Cx} {s s' : S} {k : Nat} {b : Blk} (h : BlkOK c s k b) (hl : Later s s') (htag : s'.tag = s.tag) (hbase : s'.m.base k = s.m.base k) (hext : s'.m.ext k = s.m.ext k) (hB : s'.m.B ≤ s.m.B)
    (hc : ∀ cs e fr, s.w.heap[(s.m.base k).1]? = some (.cells cs e fr) → ∃ cs', s'.w.heap[(s.m.base k).1]? = some (.cells cs' e fr) ∧ cs'.size = cs.size ∧
      ∀ o, (s.m.base k).2 ≤ o → o < (s.m.base k).2 + s.m.ext k → cs'[o]? = cs[o]?)
    (hm : ∀ es n, s.w.heap[(s.m.base k).1]? = some (.map es n) → (s.m.base k).2 = 0 → s.m.ext k = 1 → s'.w.heap[(s.m.base k).1]? = some (.map es n)) : BlkOK c s' k b := by
  obtain ⟨h1, h2, h3⟩ := h
  refine ⟨hl.ok _ h1, fun e => by rw [hbase, hext]; exact h2 (by rw [e, htag]), ?_⟩
  split
  · rename_i hk
    rw [if_pos hk] at h3
    obtain ⟨ks, vs, es, n, g1, g2, g3, g4, g5, g6, g7, g8, g9⟩ := h3
    refine ⟨ks, vs, es, n, g1, ?_, ?_, ?_, ?_, g6.move hl (.inl hB), g7.move hl (.inl hB), g8, g9⟩
    · rw [hbase]; exact hm es n g2 g3 g4
    · rw [hbase]; exact g3
    · rw [hext]; exact g4
    · rw [hbase]; exact g5
  rename_i hk
  rw [if_neg hk] at h3
  unfold CellsOK at *
  rw [hbase, hext]
  rcases h3 with h3 | ⟨cs, e, fr, g1, g2, g3, g4, g5, vs, g6, g7⟩
  · exact .inl h3
  · obtain ⟨cs', k1, k2, k3⟩ := hc cs e fr g1
    refine .inr ⟨cs', e, fr, k1, by omega, g3, g4, g5, vs, g6.later hl, fun j v hj => ?_⟩
    have hlt : j < vs.length := (List.getElem?_eq_some_iff.1 hj).1
    have := g6.length
    rw [k3 _ (by omega) (by omega)]
    exact g7 j v hj
theorem RelM.turn {c : Cx} {nt : Nat} {st : St} {a : Act} {w : World} {m : Mp} (h : RelM c nt st a w m) {k : Nat} {b' : Blk} {n' : Nat} {w' : World} {base' : Nat × Nat} {ext' : Nat}
    (ht : Turn st w m k b' n' w' base' ext') (hb : BlkOK c (At (turned st k b' n') w' (m.set k base' ext')) k b') : RelM c nt (turned st k b' n') a w' (m.set k base' ext') := by
  have hl := ht.later
  have other : ∀ j b, j ≠ k → aget j (turned st k b' n').heap = some b → aget j st.heap = some b := fun j b hj hb => by
    simpa only [turned, zan, if_neg (Ne.symm hj)] using hb
  have mb : ∀ j, j ≠ k → (m.set k base' ext').base j = m.base j ∧ (m.set k base' ext').ext j = m.ext j := fun j hj => by simp [Mp.set, hj]
  have mk : (m.set k base' ext').base k = base' ∧ (m.set k base' ext').ext k = ext' := by simp [Mp.set]
  refine ⟨h.defers.pres hl.pres, h.size, Nat.le_trans h.next1 ht.next, h.mB, fun j v hj => (h.env j v hj).move hl (.inl (Nat.le_refl _)), ?_, fun j b hj => ?_, fun i j bi bj hij hi hj => ?_⟩
  · refine h.pres.trans ht.pres (fun b o _ x => x) (fun b o hlt x => ?_)
    obtain ⟨⟨b0, h0⟩, x1, x2, x3⟩ := x
    rcases (h.blk k b0 h0).mine x2 x3 with y | y
    · simp only [] at y; omega
    · exact x1 ▸ y
  · by_cases e : j = k
    · subst e
      simp only [turned, zan, if_true, qO1] at hj
      subst hj; exact hb
    · have hj' := other j b e hj
      refine (h.blk j b hj').keep hl rfl (mb j e).1 (mb j e).2 (Nat.le_refl _) (fun cs ty fr hc => ?_) fun es n hm g1 g2 => ?_
      · obtain ⟨cs', k1, k2, k3⟩ := ht.pres.cells _ cs ty fr hc
        refine ⟨cs', k1, k2, fun o o1 o2 => k3 o fun hin => ?_⟩
        obtain ⟨⟨b0, h0⟩, x1, x2, x3⟩ := hin
        exact h.apart k j b0 b (Ne.symm e) h0 hj' x1 o ⟨x2, x3, o1, o2⟩
      · refine ht.pres.other _ _ hm (by intros; simp) fun hin => ?_
        obtain ⟨⟨b0, h0⟩, x1, x2, x3⟩ := hin
        simp only at g1 g2
        exact h.apart k j b0 b (Ne.symm e) h0 hj' x1 0 ⟨x2, x3, by omega, by omega⟩
  ·
    have key : ∀ j bj, j ≠ k → aget j st.heap = some bj → base'.1 = (m.base j).1 → ∀ o, ¬ (base'.2 ≤ o ∧ o < base'.2 + ext' ∧ (m.base j).2 ≤ o ∧ o < (m.base j).2 + m.ext j) := by
      intro j bj hjk hj e o ho
      rcases ht.reg with hr | hr | ⟨⟨b0, hb0⟩, r1, r2, r3⟩
      · omega
      · rcases (h.blk j bj hj).lt with g | g <;> simp only [] at g <;> omega
      · exact h.apart k j b0 bj (Ne.symm hjk) hb0 hj (r1 ▸ e) o ⟨by omega, by omega, ho.2.2.1, ho.2.2.2⟩
    by_cases ei : i = k
    · subst ei
      have hj' := other j bj (Ne.symm hij) hj
      rw [mk.1, mk.2, (mb j (Ne.symm hij)).1, (mb j (Ne.symm hij)).2]
      exact fun e o ho => key j bj (Ne.symm hij) hj' e o ho
    · by_cases ej : j = k
      · subst ej
        have hi' := other i bi ei hi
        rw [mk.1, mk.2, (mb i ei).1, (mb i ei).2]
        exact fun e o ho => key i bi ei hi' e.symm o ⟨ho.2.2.1, ho.2.2.2, ho.1, ho.2.1⟩
      · rw [(mb i ei).1, (mb i ei).2, (mb j ej).1, (mb j ej).2]
        exact h.apart i j bi bj hij (other i bi ei hi) (other j bj ej hj)
theorem RelM.put {c : Cx} {nt : Nat} {st : St} {a : Act} {w : World} {m : Mp} (h : RelM c nt st a w m) {d : Option Nat} (hd : d.getD 0 < nt) {v : AV} {x : Value} (hv : VR (At st w m) v x) :
    RelM c nt (putD st d v) (a.put d x) w m := by
  cases d with
  | none => exact h
  | some d =>
    refine ⟨h.defers, by simp [Act.put, h.size], h.next1, h.mB, fun k u hk => ?_, h.pres, h.blk, h.apart⟩
    simp only [putD, zan] at hk
    simp only [Act.put]
    by_cases e : d = k
    · subst e
      simp only [if_true, qO1] at hk
      subst hk
      have hlt : d < a.tmps.size := by rw [h.size]; exact hd
      rw [Array.getD_eq_getD_getElem?, Array.getElem?_setIfInBounds]
      simp only [hlt, if_true, Option.getD_some]
      exact hv
    · simp only [if_neg e] at hk
      have := h.env k u hk
      rw [Array.getD_eq_getD_getElem?, Array.getElem?_setIfInBounds_ne e, ← Array.getD_eq_getD_getElem?]
      exact this
end Go.Sim
end
section
namespace Go.Sim
open Go
def TDOK (P : Program) : TD → TypeDesc → Prop
  | .bool, .bool => True
  | .int k, .int k' => k = k'
  | .str, .string => True
  | .ptr e, .pointer e' => e = e'
  | .slice e, .slice e' => e = e'
  | .arr n e, .array n' e' => n = n' ∧ e = e'
  | .strct fs, .struct fs' => fs'.toList.map (fun f => (f.offset, f.type)) = fs ∧ fs'.toList.all (fun f => (P.info? f.type).isSome) = true
  | .func, .func _ _ _ => True
  | .map k e, .map k' e' => k = k' ∧ e = e'
  | .iface, .interface _ => True
  | .opq, .struct _ => True
  | .other, .interface _ => True
  | .other, .map _ _ => True
  | .other, .tuple _ => True
  | _, _ => False
def eqOkB (P : Program) (t : Nat) : TypeDesc → Bool
  | .struct fs => fs.toList.all (fun f => f.name != "_") && (!P.stoodInHeld t && !P.eqGuardType P.depth t)
  | .array _ _ => !P.eqGuardType P.depth t
  | _ => true
def eqOkD (P : Program) (t : Nat) : TD → TypeDesc → Bool
  | .opq, _ => true
  | _, d => eqOkB P t d
def isAggV : Value → Bool
  | .agg _ => true
  | _ => false
def TIOK (P : Program) (t : Nat) (i : TI) : Prop :=
  ∃ info d z, P.info? t = some info ∧ P.underlying t = some d ∧ TDOK P i.desc d ∧ info.size = i.size ∧ info.bytes = i.bytes ∧ info.zero = some z ∧ ofCells z.cells.toList = some i.zero ∧ eqOkD P t i.desc d = true ∧ i.isAgg = isAggV z
def LOK (P : Program) (L : Nat → Option TI) : Prop := ∀ t i, L t = some i → TIOK P t i
section
variable {P : Program} {t : Nat} {i : TI}
theorem TIOK.run_info (h : TIOK P t i) : ∃ info z, info.size = i.size ∧ info.bytes = i.bytes ∧ info.zero = some z ∧ ofCells z.cells.toList = some i.zero ∧ ∀ w, (typeInfo t).run P w = .ok info w := by
  obtain ⟨info, d, z, h1, h2, h3, h4, h5, h6, h7, h8⟩ := h
  exact ⟨info, z, h4, h5, h6, h7, fun w => by simp [typeInfo, h1]⟩
theorem TIOK.run_size (h : TIOK P t i) (w : World) : (sizeOf t).run P w = .ok i.size w := by
  obtain ⟨info, z, h1, _, _, _, h2⟩ := h.run_info
  simp [sizeOf, h2, h1]
theorem TIOK.run_zeroAV (h : TIOK P t i) (s : S) : ∃ z, VR s i.zeroAV z ∧ ∀ w, (zeroValue t).run P w = .ok z w := by
  obtain ⟨info, d, z, h1, h2, h3, h4, h5, h6, h7, h8, h9⟩ := h
  refine ⟨z, ?_, fun w => by simp [zeroValue, typeInfo, h1, h6]⟩
  have hv := zcb s _ _ h7
  unfold TI.zeroAV
  rw [h9]
  cases z <;> simp only [isAggV, Value.cells, Bool.false_eq_true, if_false, if_true] at * <;> first
    | (rename_i cs; exact .agg (vs := cs.toList) hv)
    | (cases hz : i.zero with
       | nil => exact .junk _
       | cons c l => rw [hz] at hv; cases hv with | cons _ h _ => exact h)
theorem TIOK.run_zero (h : TIOK P t i) : ∃ z, ofCells z.cells.toList = some i.zero ∧ ∀ w, (zeroValue t).run P w = .ok z w := by
  obtain ⟨info, z, _, _, h1, h2, h3⟩ := h.run_info
  exact ⟨z, h2, fun w => by simp [zeroValue, h3, h1]⟩
theorem TIOK.run_und (h : TIOK P t i) : ∃ d, TDOK P i.desc d ∧ P.underlying t = some d ∧ ∀ w, (underlying t).run P w = .ok d w := by
  obtain ⟨info, d, z, h1, h2, h3, _⟩ := h
  exact ⟨d, h3, h2, fun w => run_underlying h2 w⟩
theorem TIOK.run_agg (h : TIOK P t i) (w : World) : (isAgg t).run P w = .ok i.isAgg w := by
  obtain ⟨d, h1, _, h2⟩ := h.run_und
  simp only [isAgg, Sem.run_bind, h2, Result.andThen_ok, TI.isAgg]
  cases hd : i.desc <;> rw [hd] at h1 <;> cases d <;> simp_all [TDOK]
end
theorem zcn (b o j : Nat) : (⟨b, o, none⟩ : Addr).add j = ⟨b, o + j, none⟩ := by
  unfold Addr.add
  split
  · rename_i h; subst h; rfl
  · rfl
theorem zd7 {a : Addr} (h : a.spot = none) (j : Nat) : a.add j = ⟨a.block, a.off + j, none⟩ := by
  obtain ⟨b, o, s⟩ := a
  simp only at h
  subst h
  exact zcn b o j
theorem addr_eta {a : Addr} (h : a.spot = none) : a = ⟨a.block, a.off, none⟩ := by
  obtain ⟨b, o, s⟩ := a
  simp only at h
  subst h
  rfl
theorem run_rd {P : Program} {t : Nat} {i : TI} (hi : TIOK P t i) {s : S} {cells : List AV} {vs : List Value} {o : Nat} {v : AV} (hv : VRs s true cells vs) (hr : rdCells i cells o = some v)
    (b k : Nat) (w : World) (hc : ∀ j u, vs[j]? = some u → w.cell? ⟨b, k + j, none⟩ = some u) :
    ∃ x, (loadVar t ⟨b, k + o, none⟩).run P w = .ok x w ∧ VR s v x := by
  unfold rdCells at hr
  simp only [loadVar, Sem.run_bind, hi.run_agg, Result.andThen_ok]
  split at hr
  · rename_i ha
    split at hr
    · rename_i hle
      simp only [qO1] at hr
      subst hr
      refine ⟨.agg ((vs.drop o).take i.size).toArray, ?_, .agg ((hv.drop o).take i.size)⟩
      rw [if_pos ha]
      simp only [Sem.run_bind, hi.run_size, Result.andThen_ok]
      have hlen : ((vs.drop o).take i.size).length = i.size := by have := hv.length; simp; omega
      have := run_loadCells_list (P := P) w ⟨b, k + o, none⟩ ((vs.drop o).take i.size) (fun j u hj => by
        rw [zcn, Nat.add_assoc]
        refine hc _ _ ?_
        rw [List.getElem?_take] at hj
        split at hj
        · simpa [List.getElem?_drop] using hj
        · cases hj)
      rw [hlen] at this
      simp [this]
    · cases hr
  · rename_i ha
    obtain ⟨x, h1, h2, _⟩ := hv.get hr
    refine ⟨x, ?_, h2⟩
    rw [if_neg ha]
    simp [hc o x h1]
theorem ze7 {P : Program} {t : Nat} {i : TI} (hi : TIOK P t i) {s : S} {cells : List AV} {vs : List Value} {o : Nat} {v : AV} (hv : VRs s true cells vs) (hr : rdCells i cells o = some v) (w : World) :
    ∃ x, (part t vs.toArray o).run P w = .ok x w ∧ VR s v x := by
  unfold rdCells at hr
  simp only [part, Sem.run_bind, hi.run_agg, Result.andThen_ok]
  split at hr
  · rename_i ha
    split at hr
    · rename_i hle
      simp only [qO1] at hr
      subst hr
      refine ⟨.agg ((vs.drop o).take i.size).toArray, ?_, .agg ((hv.drop o).take i.size)⟩
      rw [if_pos ha]
      simp only [Sem.run_bind, hi.run_size, Result.andThen_ok, Sem.run_pure]
      congr 2
      apply Array.ext'
      simp [List.drop_take]
    · cases hr
  · rename_i ha
    obtain ⟨x, h1, h2, _⟩ := hv.get hr
    refine ⟨x, ?_, h2⟩
    rw [if_neg ha]
    simp [h1]
def splice (c : Array Value) (o : Nat) (vs : List Value) : Array Value := (c.toList.take o ++ vs ++ c.toList.drop (o + vs.length)).toArray
theorem zeb (c : Array Value) (o : Nat) (vs : List Value) (h : o + vs.length ≤ c.size) : (splice c o vs).size = c.size := by
  simp [splice]; omega
theorem zcc (c : Array Value) (o : Nat) (vs : List Value) (h : o + vs.length ≤ c.size) (k : Nat) :
    (splice c o vs)[k]? = if o ≤ k ∧ k < o + vs.length then vs[k - o]? else c[k]? := by
  simp only [splice, List.getElem?_toArray]
  have ho : o ≤ c.toList.length := by simp; omega
  by_cases h1 : k < o
  · rw [if_neg (by omega), List.append_assoc, List.getElem?_append_left (by simp; omega), List.getElem?_take, if_pos h1]; simp
  · by_cases h2 : k < o + vs.length
    · rw [if_pos ⟨by omega, h2⟩, List.append_assoc, List.getElem?_append_right (by simp; omega), List.getElem?_append_left (by simp; omega)]
      simp [Nat.min_eq_left (by simpa using ho)]
    · rw [if_neg (by omega), List.getElem?_append_right (by simp; omega)]
      simp only [List.length_append, List.length_take, Nat.min_eq_left ho, List.getElem?_drop, Array.getElem?_toList]
      congr 1; omega
theorem zoz (w : World) (b k : Nat) (c : Array Value) (e : TypeId) (fr : Nat × Nat) (v : Value) (hb : w.heap[b]? = some (.cells c e fr)) :
    w.setCell ⟨b, k, none⟩ v = w.putRow b (c.setIfInBounds k v) e fr := by
  obtain ⟨hlt, hg⟩ := Array.getElem?_eq_some_iff.1 hb
  simp only [World.setCell, World.putRow]
  congr 1
  apply Array.ext_getElem?
  intro j
  rw [Array.getElem?_modify, Array.getElem?_setIfInBounds]
  by_cases h : b = j
  · subst h; simp [hlt, hg]
  · simp [h]
theorem zl6 (w : World) (b : Nat) (c c' : Array Value) (e : TypeId) (fr : Nat × Nat) : (w.putRow b c e fr).putRow b c' e fr = w.putRow b c' e fr := by
  simp [World.putRow]
theorem ziw (w : World) (b : Nat) (c : Array Value) (e : TypeId) (fr : Nat × Nat) (hb : w.heap[b]? = some (.cells c e fr)) : w.putRow b c e fr = w := by
  obtain ⟨hlt, hg⟩ := Array.getElem?_eq_some_iff.1 hb
  have : w.heap.setIfInBounds b (.cells c e fr) = w.heap := by
    apply Array.ext_getElem?
    intro j
    rw [Array.getElem?_setIfInBounds]
    by_cases h : b = j
    · subst h; simp [hlt, hg]
    · simp [h]
  simp [World.putRow, this]
theorem ze6 {P : Program} (b o : Nat) (e : TypeId) (fr : Nat × Nat) : ∀ (vs : List Value) (i : Nat) (c : Array Value) (w : World),
    w.heap[b]? = some (.cells c e fr) → o + i + vs.length ≤ c.size → (∀ k, o + i ≤ k → k < o + i + vs.length → ¬ (fr.1 ≤ k ∧ k < fr.2)) → (∀ v ∈ vs, v.oneCell' = true) →
    (storeCells ⟨b, o, none⟩ vs i).run P w = .ok () (w.putRow b (splice c (o + i) vs) e fr)
  | [], i, c, w, hb, hle, hf, h1 => by
    have : splice c (o + i) [] = c := by
      apply Array.ext'
      simp [splice]
    rw [this, ziw w b c e fr hb]
    simp [storeCells]
  | v :: vs, i, c, w, hb, hle, hf, h1 => by
    simp only [List.length_cons] at hle hf
    have hcell : w.cell? ⟨b, o + i, none⟩ = some c[o + i] := by
      rw [zax hb]; exact Array.getElem?_eq_getElem (by omega)
    have hfz : w.frozen? ⟨b, o + i, none⟩ = false := by
      have := hf (o + i) (by omega) (by omega)
      simp only [World.frozen?, hb]
      obtain ⟨lo, hi⟩ := fr
      simp only at this ⊢
      simp
      omega
    have hlt : b < w.heap.size := (Array.getElem?_eq_some_iff.1 hb).1
    rw [storeCells]
    simp only [Sem.run_bind, zcn]
    rw [run_store P w _ v .plain (h1 v (by simp)), hcell]
    simp only [hfz, Bool.false_eq_true, if_false, Result.andThen_ok]
    rw [zoz w b (o + i) c e fr v hb]
    have hb' : (w.putRow b (c.setIfInBounds (o + i) v) e fr).heap[b]? = some (.cells (c.setIfInBounds (o + i) v) e fr) := by rw [zck]; simp [hlt]
    rw [ze6 b o e fr vs (i + 1) _ _ hb' (by simp; omega) (fun k k1 k2 => hf k (by omega) (by omega)) (fun u hu => h1 u (by simp [hu])), zl6]
    congr 2
    apply Array.ext_getElem?
    intro k
    rw [zcc _ _ _ (by simp; omega), zcc _ _ _ (by simp; omega), Array.getElem?_setIfInBounds]
    by_cases e1 : k = o + i
    · rw [if_neg (by omega), if_pos e1.symm, if_pos (by omega), if_pos (by simp; omega), show k - (o + i) = 0 from by omega]
      rfl
    · by_cases e2 : o + i ≤ k ∧ k < o + i + (v :: vs).length
      · simp only [List.length_cons] at e2
        rw [if_pos (by omega), if_pos (by simp; omega)]
        obtain ⟨j, rfl⟩ : ∃ j, k = o + i + 1 + j := ⟨k - (o + i + 1), by omega⟩
        rw [show o + i + 1 + j - (o + i) = j + 1 from by omega, show o + i + 1 + j - (o + (i + 1)) = j from by omega]
        simp
      · rw [if_neg e2]
        simp only [List.length_cons] at e2
        rw [if_neg (by omega), if_neg (by omega)]
theorem zap {st : St} {k : Nat} {σ : Nat × Nat} {cells : List AV} (h : blkOf st k σ = some cells) : ∃ blk, aget k st.heap = some blk ∧ blk.stamp = σ ∧ blk.cells = cells := by
  unfold blkOf at h
  split at h
  · cases h
  split at h
  · rename_i b hb
    split at h
    · rename_i hs; exact ⟨b, hb, hs, by simpa using h⟩
    · cases h
  · cases h
theorem zb1 {st : St} {k : Nat} {σ : Nat × Nat} {cells : List AV} (h : blkOf st k σ = some cells) : isMapKey k = false := by
  unfold blkOf at h
  split at h
  · cases h
  · rename_i hk; simpa using hk
theorem zm2 {d : Nat} (h : d < 500000) : isMapKey d = false := by
  unfold isMapKey
  rw [Nat.mod_eq_of_lt (by omega)]
  cases hb : Nat.ble 500000 d with
  | false => rfl
  | true => have := Nat.le_of_ble_eq_true hb; omega
theorem cellsI {c : Cx} {s : S} {k : Nat} {b : Blk} (hk : isMapKey k = false) (h : CellsOK c s k b) : if isMapKey k then MapOK c s k b else CellsOK c s k b := by
  rw [hk]; exact h
theorem mapOf_some {st : St} {k : Nat} {σ : Nat × Nat} {ks vs : List AV} (h : mapOf st k σ = some (ks, vs)) : ∃ blk, aget k st.heap = some blk ∧ blk.stamp = σ ∧ blk.cells = [.mapd ks vs] ∧ isMapKey k = true := by
  unfold mapOf at h
  split at h
  · rename_i hk
    split at h
    · rename_i b hb
      split at h
      · rename_i hs
        split at h
        · rename_i ks' vs' hc
          simp only [qO1, qO4] at h
          obtain ⟨rfl, rfl⟩ := h
          exact ⟨b, hb, hs, hc, hk⟩
        · cases h
      · cases h
    · cases h
  · cases h
section
variable {P : Program} {c : Cx} {nt : Nat} {st : St} {a : Act} {w : World} {m : Mp}
theorem RelM.blkAt (h : RelM c nt st a w m) {k : Nat} {blk : Blk} (hb : aget k st.heap = some blk) (hk : isMapKey k = false := by first | assumption | (apply zb1; assumption)) : (blk.cells = [] ∧ m.ext k = 0) ∨
    ∃ (cs : Array Value) (e : TypeId) (fr : Nat × Nat), w.heap[(m.base k).1]? = some (.cells cs e fr) ∧ (m.base k).2 + m.ext k ≤ cs.size ∧ blk.cells.length ≤ m.ext k ∧
    (c.np ≤ k → k < 1000000 → c.w0.heap.size ≤ (m.base k).1) ∧
    (∀ o, (m.base k).2 ≤ o → o < (m.base k).2 + m.ext k → ¬ (fr.1 ≤ o ∧ o < fr.2) ∧ (c.w0.heap.size ≤ (m.base k).1 ∨ c.A (m.base k).1 o)) ∧
    ∃ vs, VRs (At st w m) true blk.cells vs ∧ ∀ j v, vs[j]? = some v → cs[(m.base k).2 + j]? = some v := by
  have := (h.blk k blk hb).2.2
  rw [hk] at this
  exact this
theorem RelM.mapAt (h : RelM c nt st a w m) {k : Nat} {blk : Blk} (hb : aget k st.heap = some blk) (hk : isMapKey k = true) : MapOK c (At st w m) k blk := by
  have := (h.blk k blk hb).2.2
  rw [hk] at this
  exact this
theorem Mp.set_self (m : Mp) (k : Nat) : m.set k (m.base k) (m.ext k) = m := by
  cases m; simp only [Mp.set]; congr 1 <;> (funext j; split <;> simp_all)
theorem RelM.reads (h : RelM c nt st a w m) {k : Nat} {blk : Blk} (hb : aget k st.heap = some blk) (hk : isMapKey k = false := by first | assumption | (apply zb1; assumption)) :
    ∃ vs, VRs (At st w m) true blk.cells vs ∧ ∀ j v, vs[j]? = some v → w.cell? ⟨(m.base k).1, (m.base k).2 + j, none⟩ = some v := by
  rcases h.blkAt hb with ⟨g, _⟩ | ⟨cs, e, fr, g1, g2, g3, g4, g5, vs, g6, g7⟩
  · exact ⟨[], g ▸ .nil _, fun j v hj => by simp at hj⟩
  · exact ⟨vs, g6, fun j v hj => by rw [zax g1]; exact g7 j v hj⟩
theorem VR.ref_inv {s : S} {k : Nat} {σ : Nat × Nat} {o : Nat} {x : Value} (h : VR s (.ref k σ o) x) {blk : Blk} (hb : aget k s.heap = some blk) (hs : blk.stamp = σ) :
    x = .pointer (some ⟨(s.m.base k).1, (s.m.base k).2 + o, none⟩) := by
  cases h with | ref hok hl => rw [(hl blk hb hs).1, (hl blk hb hs).2]
theorem VR.ipt_inv {s : S} {cells : List AV} {x : Value} (h : VR s (.ipt cells) x) : ∃ a vs, x = .pointer (some ⟨a.block, a.off, none⟩) ∧ Reads s a vs ∧ VRs s true cells vs := by
  cases h with | ipt ha hr hv => exact ⟨_, _, by rw [← addr_eta ha], hr, hv⟩
theorem ok_load (h : RelM c nt st a w m) {t : Nat} {i : TI} (hi : TIOK P t i) {av v : AV} {x : Value} (hx : VR (At st w m) av x) (hl : aLoad i st av = some v) :
    ∃ y, (Instr.loadAt t x).run P w = .ok y w ∧ VR (At st w m) v y := by
  unfold aLoad at hl
  split at hl
  · rename_i k σ o
    cases hb : blkOf st k σ with
    | none => simp [hb] at hl
    | some cells =>
      simp only [hb, qO2] at hl
      obtain ⟨blk, h1, h2, rfl⟩ := zap hb
      obtain ⟨vs, g1, g2⟩ := h.reads h1
      have hx' := hx.ref_inv h1 h2
      subst hx'
      obtain ⟨y, k1, k2⟩ := run_rd hi g1 hl (m.base k).1 (m.base k).2 w g2
      exact ⟨y, by simpa [Instr.loadAt, Instr.sureAddr] using k1, k2⟩
  · rename_i cells
    obtain ⟨b, vs, rfl, hr, hv⟩ := hx.ipt_inv
    obtain ⟨y, k1, k2⟩ := run_rd hi hv hl b.block b.off w (fun j u hj => (hr j u hj).1)
    exact ⟨y, by simpa [Instr.loadAt, Instr.sureAddr] using k1, k2⟩
  · cases hl
theorem ok_gload (h : RelM c nt st a w m) {t : Nat} {i : TI} (hi : TIOK P t i) {rd : List (Nat × List Nat)} (hrd : ∀ g, (aget (1000000000 + g) rd).isSome = true → errG P g = true) (hg : GlobP P c.gl) {av v : AV} {x : Value} (hx : VR (At st w m) av x) (hl : gLoad rd i st av = some v) :
    ∃ y, (Instr.loadAt t x).run P w = .ok y w ∧ VR (At st w m) v y := by
  unfold gLoad at hl
  split at hl
  · rename_i g
    split at hl
    · rename_i hc
      obtain rfl := Option.some.inj hl
      rw [qO5] at hc
      obtain ⟨u, hu⟩ := hg.all g (hrd g hc.1)
      obtain ⟨T, te, _, _, _, _, _, _, _, hs⟩ := hg.shape g u hu
      obtain ⟨ad, rfl⟩ := hs g u hu
      have hu' : m.gl g = some (.iface T (.pointer (some ad))) := by rw [h.mB.2.2.2.1]; exact hu
      obtain ⟨⟨k1, k2⟩, _⟩ := h.globs g _ hu'
      have hie : i.isAgg = false := by
        have := hc.2
        unfold TI.isErr at this
        unfold TI.isAgg
        split at this <;> simp_all
      have hiz : i.size = 1 := by
        have := hc.2
        unfold TI.isErr at this
        split at this <;> simp_all
      obtain ⟨y, q1, q2⟩ := run_rd (v := .err g) (cells := [.err g]) (o := 0) hi (VRs.cons (s := At st w m) (one := true) (fun _ => ⟨rfl, rfl⟩) (.err hu') (.nil _)) (by simp [rdCells, hie]) g 0 w (fun j u hj => by
        cases j with
        | zero => simp only [List.getElem?_cons_zero, qO1] at hj; subst hj; exact k1
        | succ j => simp at hj)
      cases hx
      exact ⟨y, by simpa [Instr.loadAt, Instr.sureAddr] using q1, q2⟩
    · cases hl
  · exact ok_load h hi hx hl
theorem RelM.write (h : RelM c nt st a w m) {k : Nat} {blk : Blk} (hb : aget k st.heap = some blk) {o : Nat} {ds : List AV} {us : List Value} (hd : VRs (At st w m) true ds us)
    (hle : o + ds.length ≤ blk.cells.length) (hk : isMapKey k = false := by first | assumption | (apply zb1; assumption)) :
    ∃ w', (storeCells ⟨(m.base k).1, (m.base k).2 + o, none⟩ us).run P w = .ok () w' ∧ RelM c nt (putCells st k (setR blk.cells o ds)) a w' m ∧ Later (At st w m) (At (putCells st k (setR blk.cells o ds)) w' m) := by
  have hlen := hd.length
  have hput : putCells st k (setR blk.cells o ds) = turned st k ⟨blk.stamp, setR blk.cells o ds⟩ st.next := by
    simp [putCells, hb, turned]
  have hmset := m.set_self k
  have hsl : (setR blk.cells o ds).length = blk.cells.length := by simp [setR]; omega
  have hB := h.blk k blk hb
  rcases h.blkAt hb with ⟨g, g'⟩ | ⟨cs, e, fr, g1, g2, g3, g4, g5, vs, g6, g7⟩
  ·
    have h0 : ds = [] := by rw [g] at hle; simp at hle; exact hle.2
    have h1 : us = [] := by rw [h0] at hlen; simpa using hlen.symm
    subst h0; subst h1
    have hT : Turn st w m k ⟨blk.stamp, setR blk.cells o []⟩ st.next w (m.base k) (m.ext k) :=
      ⟨Pres.refl _ _, Nat.le_refl _, .inl g', .inl ⟨blk, hb, rfl, rfl, rfl, hsl.symm⟩⟩
    have hl := hT.later
    have hR := h.turn hT (by
      rw [hmset] at hl ⊢
      exact ⟨hl.ok _ hB.1, hB.2.1, by rw [hk]; exact .inl ⟨by show setR blk.cells o [] = []; rw [← List.length_eq_zero_iff, hsl, g]; rfl, g'⟩⟩)
    rw [hmset] at hl hR
    exact ⟨w, by simp [storeCells], by rw [hput]; exact hR, by rw [hput]; exact hl⟩
  · have gl := g6.length
    have hrun := ze6 (P := P) (m.base k).1 ((m.base k).2 + o) e fr us 0 cs w g1 (by omega) (fun j k1 k2 => (g5 j (by omega) (by omega)).1) hd.one
    simp only [Nat.add_zero] at hrun
    have hin : ∀ j, ¬ In st m k (m.base k).1 j → (splice cs ((m.base k).2 + o) us)[j]? = cs[j]? := fun j hj => by
      rw [zcc _ _ _ (by omega), if_neg]
      intro hx
      exact hj ⟨⟨blk, hb⟩, rfl, by omega, by omega⟩
    have hT : Turn st w m k ⟨blk.stamp, setR blk.cells o ds⟩ st.next (w.putRow (m.base k).1 (splice cs ((m.base k).2 + o) us) e fr) (m.base k) (m.ext k) := by
      refine ⟨?_, Nat.le_refl _, .inr (.inr ⟨⟨blk, hb⟩, rfl, Nat.le_refl _, Nat.le_refl _⟩), .inl ⟨blk, hb, rfl, rfl, rfl, hsl.symm⟩⟩
      refine Pres.putRow g1 (zeb _ _ _ (by omega)) (fun j hj => hin j hj)
    have hl := hT.later
    have hlt : (m.base k).1 < w.heap.size := (Array.getElem?_eq_some_iff.1 g1).1
    have hR := h.turn hT (by
      rw [hmset] at hl ⊢
      refine ⟨hl.ok _ hB.1, hB.2.1, by rw [hk]; exact .inr ⟨splice cs ((m.base k).2 + o) us, e, fr, by rw [zck]; simp [hlt], by rw [zeb _ _ _ (by omega)]; exact g2,
        by show (setR blk.cells o ds).length ≤ m.ext k; rw [hsl]; exact g3, g4, g5, vs.take o ++ us ++ vs.drop (o + us.length), (g6.later hl).setR (hd.later hl) o, fun j v hj => by
        show (splice cs ((m.base k).2 + o) us)[(m.base k).2 + j]? = some v
        rw [zcc _ _ _ (by omega)]
        by_cases h1 : j < o
        · rw [if_neg (by omega)]
          rw [List.append_assoc, List.getElem?_append_left (by simp; omega), List.getElem?_take, if_pos h1] at hj
          exact g7 j v hj
        · by_cases h2 : j < o + us.length
          · rw [if_pos ⟨by omega, by omega⟩]
            rw [List.append_assoc, List.getElem?_append_right (by simp; omega), List.getElem?_append_left (by simp; omega)] at hj
            simp only [List.length_take, Nat.min_eq_left (show o ≤ vs.length by omega)] at hj
            rw [← hj]; congr 1; omega
          · rw [if_neg (by omega)]
            rw [List.getElem?_append_right (by simp; omega)] at hj
            simp only [List.length_append, List.length_take, Nat.min_eq_left (show o ≤ vs.length by omega), List.getElem?_drop] at hj
            refine g7 j v ?_
            rw [← hj]; congr 1; omega⟩⟩)
    rw [hmset] at hl hR
    exact ⟨_, hrun, by rw [hput]; exact hR, by rw [hput]; exact hl⟩
theorem ok_store (h : RelM c nt st a w m) {t : Nat} {i : TI} (hi : TIOK P t i) {av v : AV} {x y : Value} (hx : VR (At st w m) av x) (hy : VR (At st w m) v y) {st' : St} (hs : aStore i st av v = some st') :
    ∃ w' m', (Instr.storeAt t x y).run P w = .ok () w' ∧ RelM c nt st' a w' m' := by
  unfold aStore at hs
  split at hs
  · rename_i k σ o
    cases hb : blkOf st k σ with
    | none => simp [hb] at hs
    | some cells =>
      simp only [hb, qO2] at hs
      obtain ⟨blk, h1, h2, rfl⟩ := zap hb
      split at hs
      · rename_i hc
        obtain ⟨c1, c2, c3⟩ := hc
        simp only [qO1] at hs
        subst hs
        have hx' := hx.ref_inv h1 h2
        subst hx'
        have hd := hy.cells c1
        obtain ⟨w', r1, r2, _⟩ := h.write (P := P) (o := o) h1 hd (by omega)
        refine ⟨w', m, ?_, r2⟩
        have hsz : y.cells.size = i.size := by have := hd.length; simp at this; omega
        simp [Instr.storeAt, Instr.sureAddr, storeVar, hi.run_size, hsz, r1]
      · cases hs
  · cases hs
end
end Go.Sim
end
section
namespace Go.Sim
open Go
section
variable {P : Program} {c : Cx} {nt : Nat} {st : St} {a : Act} {w : World} {m : Mp}
theorem RelM.drew (h : RelM c nt st a w m) : RelM c nt st a w.drew m ∧ Later (At st w m) (At st w.drew m) := by
 have hl : Later (At st w m) (At st w.drew m) := ⟨Pres.drew _ _, fun _ _ _ x => x, fun k b hb _ => ⟨b, hb, rfl, rfl, rfl, rfl⟩, fun _ x => x, fun _ _ _ x => .inr x, rfl, rfl⟩
 refine ⟨⟨h.defers, h.size, h.next1, h.mB, fun k v hk => (h.env k v hk).move hl (.inl (Nat.le_refl _)), h.pres.trans (Pres.drew c.A w) (fun _ _ _ x => x) (fun _ _ _ x => x), fun k b hb => ?_, h.apart⟩, hl⟩
 exact (h.blk k b hb).keep hl rfl rfl rfl (Nat.le_refl _) (fun cs e fr hc => ⟨cs, hc, rfl, fun _ _ _ => rfl⟩) fun es n hc _ _ => hc
theorem zb4 (st : St) (d : Nat) (cells : List AV) : (newBlk st d cells).2 = turned st d ⟨(st.tag, st.next), cells⟩ (st.next + 1) := rfl
theorem zfg (w : World) (ob : Obj) : (w.alloc ob).heap[w.heap.size]? = some ob := by
 show (w.heap.push ob)[w.heap.size]? = _
 simp
theorem RelM.new (h : RelM c nt st a w m) (d : Nat) {cells : List AV} {vs : List Value} (hv : VRs (At st w m) true cells vs) (cs : Array Value) (n : Nat) (e : TypeId)
  (hcs : ∀ (j : Nat) (v : Value), vs[j]? = some v → cs[j]? = some v) (hn : n ≤ cs.size) (hle : vs.length ≤ n) (hk : isMapKey d = false := by first | assumption | (apply zb1; assumption)) :
  RelM c nt (newBlk st d cells).2 a (w.alloc (.cells cs e)) (m.set d (w.heap.size, 0) n) ∧
  Later (At st w m) (At (newBlk st d cells).2 (w.alloc (.cells cs e)) (m.set d (w.heap.size, 0) n)) := by
 have hT : Turn st w m d ⟨(st.tag, st.next), cells⟩ (st.next + 1) (w.alloc (.cells cs e)) (w.heap.size, 0) n :=
  ⟨Pres.alloc _ _ _, Nat.le_succ _, .inr (.inl (Nat.le_refl _)), .inr zbr⟩
 have hl := hT.later
 refine ⟨?_, hl⟩
 rw [zb4]
 refine h.turn hT ⟨zay _ _, fun e => ?_, cellsI hk (.inr ⟨cs, e, (0, 0), ?_, ?_, ?_, ?_, ?_, vs, hv.later hl, ?_⟩)⟩
 ·have := h.next1
  simp only [turned, qO4] at e
  omega
 ·simp only [Mp.set, if_true]; exact zfg _ _
 ·simp only [Mp.set, if_true]; omega
 ·simp only [Mp.set, if_true]; have := hv.length; omega
 ·simp only [Mp.set, if_true]; exact fun _ _ => h.pres.size
 ·simp only [Mp.set, if_true]
  exact fun o _ _ => ⟨by omega, .inl h.pres.size⟩
 ·simp only [Mp.set, if_true, Nat.zero_add]; exact hcs
theorem VR.new_ref (h1 : 1 ≤ st.next) (d : Nat) (cells : List AV) (w' : World) (b n : Nat) :
  VR (At (newBlk st d cells).2 w' (m.set d (b, 0) n)) (.ref d (newBlk st d cells).1 0) (.pointer (some ⟨b, 0, none⟩)) := by
 refine .ref (zay _ _) fun blk hb hs => ?_
 simp [Mp.set]
theorem VR.new_msl (h1 : 1 ≤ st.next) (d : Nat) {cells : List AV} (w' : World) (b sz len cap : Nat) (hlen : cells.length = len * sz) (hc : len ≤ cap) :
  VR (At (newBlk st d cells).2 w' (m.set d (b, 0) (cap * sz))) (.msl d (newBlk st d cells).1 sz 0 len) (.slice (some ⟨b, 0, none⟩) len cap) := by
 refine .msl (zay _ _) ⟨rfl, hc⟩ fun blk hb hs => ?_
 simp only [At, newBlk, zan, if_true, qO1] at hb
 subst hb
 exact ⟨by simp [hlen], .inl ⟨cap, by simp [Mp.set], hc, by simp [Mp.set]⟩⟩
theorem ok_alloc (h : RelM c nt st a w m) {t : Nat} {i : TI} (hi : TIOK P t i) (d : Nat) (hk : isMapKey d = false := by first | assumption | (apply zb1; assumption)) :
  ∃ x w' m', (Instr.alloc t true (.tuple #[])).run P w = .ok x w' ∧ RelM c nt (newBlk st d i.zero).2 a w' m' ∧ VR (At (newBlk st d i.zero).2 w' m') (.ref d (newBlk st d i.zero).1 0) x := by
 obtain ⟨z, hz, hr⟩ := hi.run_zero
 have hv := zcb (At st w m) _ _ hz
 have hn := h.new d hv z.cells z.cells.size t (fun j v hj => by simpa using hj) (Nat.le_refl _) (by simp)
 refine ⟨.pointer (some ⟨w.heap.size, 0, none⟩), _, _, ?_, hn.1, VR.new_ref h.next1 d _ _ _ _⟩
 simp [Instr.alloc, hr, newVar, newRow]
theorem ok_box (h : RelM c nt st a w m) (t d : Nat) {v : AV} {x : Value} (hx : VR (At st w m) v x) (hs : v.solid = true) (hk : isMapKey d = false := by first | assumption | (apply zb1; assumption)) :
  ∃ y w' m', (Instr.box t x).run P w = .ok y w' ∧ RelM c nt (newBlk st d v.cells).2 a w' m' ∧ VR (At (newBlk st d v.cells).2 w' m') (.ref d (newBlk st d v.cells).1 0) y := by
 have hv := hx.cells hs
 have hn := h.new d hv x.cells x.cells.size t (fun j u hj => by simpa using hj) (Nat.le_refl _) (by simp)
 refine ⟨.pointer (some ⟨w.heap.size, 0, none⟩), _, _, ?_, hn.1, VR.new_ref h.next1 d _ _ _ _⟩
 simp [Instr.box, newVar, newRow]
theorem VR.isl_inv {s : S} {sz n : Nat} {cells : List AV} {x : Value} (h : VR s (.isl sz n cells) x ∨ VR s (.fsl sz n cells) x) :
  (∃ ad cap vs, x = .slice (some ad) n cap ∧ ad.spot = none ∧ cells.length = n * sz ∧ Reads s ad vs ∧ VRs s true cells vs) ∨ (∃ ad cap, x = .slice ad 0 cap ∧ n = 0 ∧ cells = []) := by
 rcases h with h | h
 ·cases h with
  | isl ha hcap hlen hr hv => exact .inl ⟨_, _, _, rfl, ha, hlen, hr, hv⟩
  | islnil => exact .inr ⟨_, _, rfl, rfl, rfl⟩
 ·cases h.fsl_isl with
  | isl ha hcap hlen hr hv => exact .inl ⟨_, _, _, rfl, ha, hlen, hr, hv⟩
  | islnil => exact .inr ⟨_, _, rfl, rfl, rfl⟩
theorem VR.msl_inv {s : S} {k : Nat} {σ : Nat × Nat} {sz o n : Nat} {x : Value} (h : VR s (.msl k σ sz o n) x) {blk : Blk} (hb : aget k s.heap = some blk) (hs : blk.stamp = σ) : SlOK s k blk sz o n x := by
 cases h with | msl hok hv hl => exact hl blk hb hs
theorem zhm (h : RelM c nt st a w m) {sz n : Nat} {cells : List AV} {v : AV} {x : Value} (hx : VR (At st w m) v x) (hs : slCells st sz v = some (n, cells)) :
  ∃ vs, VRs (At st w m) true cells vs ∧ cells.length = n * sz ∧
   ((∃ ad cap, x = .slice (some ad) n cap ∧ ad.spot = none ∧ ∀ j u, vs[j]? = some u → w.cell? (ad.add j) = some u) ∨ (∃ ad cap, x = .slice ad n cap ∧ n = 0)) := by
 unfold slCells at hs
 split at hs
 ·rename_i k σ z o len
  split at hs
  ·rename_i hz
   subst hz
   cases hb : blkOf st k σ with
   | none => simp [hb] at hs
   | some cs =>
    simp only [hb, qO2] at hs
    obtain ⟨blk, h1, h2, rfl⟩ := zap hb
    split at hs
    ·rename_i hle
     simp only [qO1, qO4] at hs
     obtain ⟨rfl, rfl⟩ := hs
     obtain ⟨vs, g1, g2⟩ := h.reads h1
     have gl := g1.length
     refine ⟨(vs.drop o).take (len * z), (g1.drop o).take _, by simp; omega, ?_⟩
     rcases (hx.msl_inv h1 h2).2 with ⟨cap, rfl, _, _⟩ | ⟨rfl, ad, rfl⟩
     ·refine .inl ⟨_, cap, rfl, rfl, fun j u hj => ?_⟩
      rw [zcn, Nat.add_assoc]
      refine g2 _ _ ?_
      rw [List.getElem?_take] at hj
      split at hj
      ·simpa [List.getElem?_drop] using hj
      ·cases hj
     ·exact .inr ⟨_, _, rfl, rfl⟩
    ·cases hs
  ·cases hs
 ·rename_i z len cs
  split at hs
  ·rename_i hz
   obtain ⟨rfl, hlen⟩ := hz
   simp only [qO1, qO4] at hs
   obtain ⟨rfl, rfl⟩ := hs
   rcases VR.isl_inv (.inl hx) with ⟨ad, cap, vs, rfl, ha, _, hr, hv⟩ | ⟨ad, cap, rfl, rfl, rfl⟩
   ·exact ⟨vs, hv, hlen, .inl ⟨ad, cap, rfl, ha, fun j u hj => by rw [zd7 ha]; exact (hr j u hj).1⟩⟩
   ·exact ⟨[], .nil _, hlen, .inr ⟨_, _, rfl, rfl⟩⟩
  ·cases hs
 ·rename_i z len cs
  split at hs
  ·rename_i hz
   obtain ⟨rfl, hlen⟩ := hz
   simp only [qO1, qO4] at hs
   obtain ⟨rfl, rfl⟩ := hs
   rcases VR.isl_inv (.inr hx) with ⟨ad, cap, vs, rfl, ha, _, hr, hv⟩ | ⟨ad, cap, rfl, rfl, rfl⟩
   ·exact ⟨vs, hv, hlen, .inl ⟨ad, cap, rfl, ha, fun j u hj => by rw [zd7 ha]; exact (hr j u hj).1⟩⟩
   ·exact ⟨[], .nil _, hlen, .inr ⟨_, _, rfl, rfl⟩⟩
  ·cases hs
 ·simp only [qO1, qO4] at hs
  obtain ⟨rfl, rfl⟩ := hs
  cases hx
  exact ⟨[], .nil _, by simp, .inr ⟨_, _, rfl, rfl⟩⟩
 ·cases hs
theorem run_first {sz n : Nat} {ad : Addr} {cap len : Nat} {vs : List Value} (hl : vs.length = n * sz) (hc : ∀ (j : Nat) (u : Value), vs[j]? = some u → w.cell? (ad.add j) = some u) :
  (Builtin.firstCells sz n (.slice (some ad) len cap)).run P w = .ok vs.toArray w := run_firstCells_some (P := P) w sz n ad len cap vs hl hc
theorem zda (t ty e : Nat) (i : TypeInfo) (ht : P.underlying t = some (.slice e)) (hi : P.info? e = some i) (ad : Option Addr) (k cap : Nat) (hk : k ≤ cap) (bd : Option Addr) (cap' : Nat) :
  (Builtin.append_ #[t, t] ty #[.slice ad k cap, .slice bd 0 cap']).run P w = .ok (.slice ad k cap) w := by
 cases bd <;> cases ad <;> simp [Builtin.append_, run_underlying ht, sizeOf, typeInfo, hi, Builtin.lenOf, hk, Builtin.firstCells, loadCells, loadCellsFrom, storeCells]
theorem zlk (t ty e : Nat) (i : TypeInfo) (ht : P.underlying t = some (.slice e)) (hi : P.info? e = some i) (b o k cap : Nat) (bd : Addr) (n cap' : Nat) (news : List Value)
  (hl : news.length = n * i.size) (hnews : ∀ (j : Nat) (u : Value), news[j]? = some u → w.cell? (bd.add j) = some u) (hroom : k + n ≤ cap) {w' : World}
  (hst : (storeCells ⟨b, o + k * i.size, none⟩ news).run P w = .ok () w') :
  (Builtin.append_ #[t, t] ty #[.slice (some ⟨b, o, none⟩) k cap, .slice (some bd) n cap']).run P w = .ok (.slice (some ⟨b, o, none⟩) (k + n) cap) w' := by
 have hf := run_firstCells_some (P := P) w i.size n bd n cap' news hl hnews
 simp [Builtin.append_, run_underlying ht, sizeOf, typeInfo, hi, Builtin.lenOf, hroom, hf, zcn, hst]
theorem sliceBy {t : Nat} {i : TI} (h : TIOK P t i) {e : Nat} (hd : i.desc = .slice e) : P.underlying t = some (.slice e) := by
 obtain ⟨d, h1, h2, _⟩ := h.run_und
 rw [hd] at h1
 cases d <;> simp_all [TDOK]
end
section
variable {P : Program} {c : Cx} {nt : Nat} {st : St} {a : Act} {w : World} {m : Mp}
theorem zfa (h : RelM c nt st a w m) (d : Nat) {olds news : List AV} {vo vn : List Value} (ho : VRs (At st w m) true olds vo) (hn : VRs (At st w m) true news vn)
  (sz k n cap e : Nat) (z : Value) (hzs : z.cells.size = sz) (hlo : olds.length = k * sz) (hln : news.length = n * sz) (hcap : k + n ≤ cap) (hk : isMapKey d = false := by first | assumption | (apply zb1; assumption)) :
  RelM c nt (newBlk st d (olds ++ news)).2 a (w.drew.alloc (.cells (vo.toArray ++ vn.toArray ++ Builtin.zeroCells z.cells (cap - (k + n))) e)) (m.set d (w.heap.size, 0) (cap * sz)) ∧
  VR (At (newBlk st d (olds ++ news)).2 (w.drew.alloc (.cells (vo.toArray ++ vn.toArray ++ Builtin.zeroCells z.cells (cap - (k + n))) e)) (m.set d (w.heap.size, 0) (cap * sz)))
   (.msl d (newBlk st d (olds ++ news)).1 sz 0 (k + n)) (.slice (some ⟨w.heap.size, 0, none⟩) (k + n) cap) := by
 have h' := h.drew
 have l1 := ho.length
 have l2 := hn.length
 have hle : (k + n) * sz ≤ cap * sz := Nat.mul_le_mul_right sz hcap
 have hsub : (cap - (k + n)) * sz = cap * sz - (k + n) * sz := Nat.sub_mul _ _ _
 have hadd : (k + n) * sz = k * sz + n * sz := Nat.add_mul _ _ _
 have := h'.1.new d ((ho.later h'.2).append (hn.later h'.2)) (vo.toArray ++ vn.toArray ++ Builtin.zeroCells z.cells (cap - (k + n))) (cap * sz) e
  (fun j v hj => by
   have hlt : j < (vo ++ vn).length := (List.getElem?_eq_some_iff.1 hj).1
   rw [Array.getElem?_append_left (by simpa using hlt)]
   simpa using hj)
  (by simp only [Array.size_append, List.size_toArray, size_zeroCells, hzs]; omega) (by simp only [List.length_append]; omega)
 exact ⟨this.1, VR.new_msl h.next1 d _ _ sz (k + n) cap (by simp only [List.length_append]; omega) hcap⟩
theorem ok_append (h : RelM c nt st a w m) {t e : Nat} {it ie : TI} (ht : TIOK P t it) (hd : it.desc = .slice e) (he : TIOK P e ie) (hz0 : ie.zero.length = ie.size) (ty d : Nat) {s x v : AV} {vs vx : Value}
  (hs : VR (At st w m) s vs) (hx : VR (At st w m) x vx) {st' : St} (ha : aAppend ie.size ie.bytes st d s x = some (v, st')) (hk : isMapKey d = false := by first | assumption | (apply zb1; assumption)) :
  ∃ y w' m', (Builtin.append_ #[t, t] ty #[vs, vx]).run P w = .ok y w' ∧ RelM c nt st' a w' m' ∧ VR (At st' w' m') v y := by
 have hu := sliceBy ht hd
 obtain ⟨info, de, z, hinfo, _, _, hsz, hby, hzero, hzc, hzd⟩ := he
 have hzs : z.cells.size = ie.size := by
  have := (zcb (At st w m) _ _ hzc).length
  simp at this; omega
 have hzs' : z.cells.size = info.size := by omega
 unfold aAppend at ha
 cases hc : slCells st ie.size x with
 | none => simp [hc] at ha
 | some p =>
  obtain ⟨n, new⟩ := p
  simp only [hc, qO3, qO2] at ha
  obtain ⟨vn, hvn, hlen, hx'⟩ := zhm h hx hc
  have hlv := hvn.length
  have hvl : vn.length = n * info.size := by rw [← hlv, hlen, hsz]
  split at ha
  ·
   split at ha
   ·rename_i hb
    obtain ⟨hb0, hsz0, hb1⟩ := hb
    simp only [qO1, qO4] at ha
    obtain ⟨rfl, rfl⟩ := ha
    obtain ⟨pa, rfl⟩ : ∃ pa, vs = .slice pa 0 0 := by cases hs; exact ⟨_, rfl⟩
    by_cases hn0 : n = 0
    ·subst hn0
     have hnew : new = [] := List.eq_nil_of_length_eq_zero (by omega)
     subst hnew
     have hrun : ∃ bd cap', vx = .slice bd 0 cap' := by rcases hx' with ⟨ad, cap, rfl, _⟩ | ⟨ad, cap, rfl, _⟩ <;> exact ⟨_, _, rfl⟩
     obtain ⟨bd, cap', rfl⟩ := hrun
     refine ⟨_, w, m.set d (0, 0) 0, zda (P := P) t ty e info hu hinfo pa 0 0 (Nat.le_refl _) bd cap', ?_, ?_⟩
     ·rw [zb4]
      have hT : Turn st w m d ⟨(st.tag, st.next), []⟩ (st.next + 1) w (0, 0) 0 := ⟨Pres.refl _ _, Nat.le_succ _, .inl rfl, .inr zbr⟩
      refine h.turn hT ⟨zay _ _, fun e => ?_, cellsI (by first | assumption | (apply zb1; assumption)) (.inl ⟨rfl, by simp [Mp.set]⟩)⟩
      have := h.next1
      simp only [turned, qO4] at e
      omega
     ·refine .msl (zay _ _) ⟨rfl, Nat.le_refl _⟩ fun blk hb hs => ?_
      simp only [At, newBlk, zan, if_true, qO1] at hb
      subst hb
      exact ⟨by simp, .inr ⟨rfl, pa, rfl⟩⟩
    ·cases pa with
     | some bad =>
      rcases hx' with ⟨ad, cap', rfl, hspot, hcells⟩ | ⟨_, _, _, h0⟩
      ·have hkn : 0 + n ≤ 9223372036854775807 := by
        have : n * 1 ≤ n * ie.bytes := Nat.mul_le_mul_left n hb0
        omega
       have hrun := run_append_grow (P := P) w t ty e info z hu hinfo hzero bad 0 0 [] (by simp) (by simp) ad n cap' vn hvl hcells (by omega) (by omega)
        (by rw [hby]; exact growslice_fits (by omega) (by rw [Nat.zero_add]; exact hb1))
       have hnew := zfa h d (olds := []) (vo := []) (.nil _) hvn ie.size 0 n (grownCap w (0 + n) 0 e) e z hzs (by simp) hlen (grownCap_ge w (0 + n) 0 e)
       simp only [List.nil_append, Nat.zero_add] at hnew hrun
       exact ⟨_, _, _, hrun, hnew.1, hnew.2⟩
      ·exact (hn0 h0).elim
     | none =>
     rcases hx' with ⟨ad, cap, rfl, hspot, hcells⟩ | ⟨_, _, _, h0⟩
     ·have hrun := run_append_nil (P := P) w t ty e info z hu hinfo hzero ad n cap vn hvl hcells (by omega) (by
        have : n * 1 ≤ n * ie.bytes := Nat.mul_le_mul_left n hb0
        omega) (by rw [hby]; omega)
      have hnew := zfa h d (olds := []) (vo := []) (.nil _) hvn ie.size 0 n (grownCap w n 0 e) e z hzs (by simp) hlen (by simpa using grownCap_ge w n 0 e)
      simp only [List.nil_append, Nat.zero_add, Array.empty_append] at hnew
      exact ⟨_, _, _, hrun, hnew.1, hnew.2⟩
     ·exact (hn0 h0).elim
   ·cases ha
  ·
   rename_i site σ zz o k
   cases hb : blkOf st site σ with
   | none => simp [hb] at ha
   | some cells =>
    simp only [hb, qO2] at ha
    obtain ⟨blk, h1, h2, rfl⟩ := zap hb
    split at ha
    ·rename_i hcnd
     obtain ⟨hz, hb0, hsz0, hfull, hbytes⟩ := hcnd
     subst hz
     simp only [qO1, qO4] at ha
     obtain ⟨rfl, rfl⟩ := ha
     have hsl := hs.msl_inv h1 h2
     obtain ⟨vo, g1, g2⟩ := h.reads h1
     have gl := g1.length
     have hold := g1.drop o
     have hdl : (blk.cells.drop o).length = k * ie.size := by simp; omega
     have hkn : k + n ≤ 9223372036854775807 := by
      have : (k + n) * 1 ≤ (k + n) * ie.bytes := Nat.mul_le_mul_left _ hb0
      omega
     have fresh : ∀ (bad : Addr) (cap : Nat), vs = .slice (some bad) k cap → (∀ (j : Nat) (u : Value), (vo.drop o)[j]? = some u → w.cell? (bad.add j) = some u) → cap < k + n → 0 < n →
       ∃ y w' m', (Builtin.append_ #[t, t] ty #[vs, vx]).run P w = .ok y w' ∧ RelM c nt (newBlk st site (blk.cells.drop o ++ new)).2 a w' m' ∧
        VR (At (newBlk st site (blk.cells.drop o ++ new)).2 w' m') (.msl site (newBlk st site (blk.cells.drop o ++ new)).1 ie.size 0 (k + n)) y := by
      intro bad cap hvs hcell hgt hn0
      subst hvs
      rcases hx' with ⟨ad, cap', rfl, hspot, hcells⟩ | ⟨_, _, _, h0⟩
      ·have hrun := run_append_grow (P := P) w t ty e info z hu hinfo hzero bad k cap (vo.drop o) (by rw [← hold.length, hdl, hsz]) hcell ad n cap' vn hvl hcells hgt (by omega)
        (by rw [hby]; exact growslice_fits hgt hbytes)
       have hnew := zfa h site hold hvn ie.size k n (grownCap w (k + n) cap e) e z hzs hdl hlen (grownCap_ge w (k + n) cap e)
       exact ⟨_, _, _, hrun, hnew.1, hnew.2⟩
      ·omega
     have still : ∀ (ad : Option Addr), vs = .slice ad 0 0 → k = 0 → n = 0 →
       ∃ y w' m', (Builtin.append_ #[t, t] ty #[vs, vx]).run P w = .ok y w' ∧ RelM c nt (newBlk st site (blk.cells.drop o ++ new)).2 a w' m' ∧
        VR (At (newBlk st site (blk.cells.drop o ++ new)).2 w' m') (.msl site (newBlk st site (blk.cells.drop o ++ new)).1 ie.size 0 (k + n)) y := by
      intro ad hvs hk0 hn0
      subst hvs hk0 hn0
      have e1 : blk.cells.drop o = [] := List.eq_nil_of_length_eq_zero (by omega)
      have e2 : new = [] := List.eq_nil_of_length_eq_zero (by omega)
      rw [e1, e2]
      have hrun : ∃ bd cap', vx = .slice bd 0 cap' := by rcases hx' with ⟨ad, cap, rfl, _⟩ | ⟨ad, cap, rfl, _⟩ <;> exact ⟨_, _, rfl⟩
      obtain ⟨bd, cap', rfl⟩ := hrun
      refine ⟨_, w, m.set site (0, 0) 0, zda (P := P) t ty e info hu hinfo ad 0 0 (Nat.le_refl _) bd cap', ?_, ?_⟩
      ·rw [zb4]
       have hT : Turn st w m site ⟨(st.tag, st.next), [] ++ []⟩ (st.next + 1) w (0, 0) 0 := ⟨Pres.refl _ _, Nat.le_succ _, .inl rfl, .inr zbr⟩
       refine h.turn hT ⟨zay _ _, fun e => ?_, cellsI (by first | assumption | (apply zb1; assumption)) (.inl ⟨rfl, by simp [Mp.set]⟩)⟩
       have := h.next1
       simp only [turned, qO4] at e
       omega
      ·refine .msl (zay _ _) ⟨rfl, Nat.le_refl _⟩ fun blk hb hs => ?_
       simp only [At, newBlk, zan, if_true, qO1] at hb
       subst hb
       exact ⟨by simp, .inr ⟨rfl, ad, rfl⟩⟩
     rcases hsl.2 with ⟨cap, hvs, hkc, hext⟩ | ⟨hk0, ad, hvs⟩
     ·replace hvs : vs = .slice (some ⟨(m.base site).1, (m.base site).2 + o, none⟩) k cap := hvs
      replace hext : o + cap * ie.size ≤ m.ext site := hext
      by_cases hroom : k + n ≤ cap
      ·rcases h.blkAt h1 with ⟨q1, q2⟩ | ⟨cs, ty', fr, r1, r2, r3, r4, r5, vr, r6, r7⟩
       ·
        have hc0 : cap * ie.size = 0 := by omega
        have hcap : cap = 0 := by
         rcases Nat.mul_eq_zero.1 hc0 with x | x
         ·exact x
         ·omega
        subst hcap
        exact still _ (by rw [hvs, show k = 0 from by omega]) (by omega) (by omega)
       ·have rl := r6.length
        have lk : k * ie.size + n * ie.size ≤ cap * ie.size := by rw [← Nat.add_mul]; exact Nat.mul_le_mul_right _ hroom
        have hst := ze6 (P := P) (m.base site).1 ((m.base site).2 + o + k * ie.size) ty' fr vn 0 cs w r1 (by omega) (fun j k1 k2 => (r5 j (by omega) (by omega)).1) hvn.one
        simp only [Nat.add_zero] at hst
        have hrun : (Builtin.append_ #[t, t] ty #[vs, vx]).run P w = .ok (.slice (some ⟨(m.base site).1, (m.base site).2 + o, none⟩) (k + n) cap)
          (w.putRow (m.base site).1 (splice cs ((m.base site).2 + o + k * ie.size) vn) ty' fr) := by
         rw [hvs]
         by_cases hn0 : n = 0
         ·subst hn0
          have e2 : vn = [] := List.eq_nil_of_length_eq_zero (by omega)
          have hx2 : ∃ bd cap', vx = .slice bd 0 cap' := by rcases hx' with ⟨ad, cap, rfl, _⟩ | ⟨ad, cap, rfl, _⟩ <;> exact ⟨_, _, rfl⟩
          obtain ⟨bd, cap', rfl⟩ := hx2
          rw [zda (P := P) t ty e info hu hinfo _ k cap hkc bd cap', e2]
          have : splice cs ((m.base site).2 + o + k * ie.size) [] = cs := by apply Array.ext'; simp [splice]
          rw [this, ziw _ _ _ _ _ r1]
          rfl
         ·rcases hx' with ⟨ad, cap', rfl, hspot, hcells⟩ | ⟨_, _, _, h0⟩
          ·exact zlk (P := P) t ty e info hu hinfo _ _ k cap ad n cap' vn hvl hcells hroom (by rw [hsz]; exact hst)
          ·omega
        have hT : Turn st w m site ⟨(st.tag, st.next), blk.cells.drop o ++ new⟩ (st.next + 1) (w.putRow (m.base site).1 (splice cs ((m.base site).2 + o + k * ie.size) vn) ty' fr)
          ((m.base site).1, (m.base site).2 + o) (cap * ie.size) := by
         refine ⟨?_, Nat.le_succ _, .inr (.inr ⟨⟨blk, h1⟩, rfl, by simp, by simp only []; omega⟩), .inr zbr⟩
         refine Pres.putRow r1 (zeb _ _ _ (by omega)) (fun j hj => ?_)
         rw [zcc _ _ _ (by omega), if_neg]
         intro hh
         exact hj ⟨⟨blk, h1⟩, rfl, by omega, by omega⟩
        have hl := hT.later
        have hlt : (m.base site).1 < w.heap.size := (Array.getElem?_eq_some_iff.1 r1).1
        refine ⟨_, _, m.set site ((m.base site).1, (m.base site).2 + o) (cap * ie.size), hrun, ?_, ?_⟩
        ·rw [zb4]
         refine h.turn hT ⟨zay _ _, fun e => ?_, cellsI (by first | assumption | (apply zb1; assumption)) (.inr ⟨splice cs ((m.base site).2 + o + k * ie.size) vn, ty', fr, ?_, ?_, ?_, ?_, ?_, vr.drop o ++ vn, ?_, ?_⟩)⟩
         ·have := h.next1
          simp only [turned, qO4] at e
          omega
         ·simp only [Mp.set, if_true]; rw [zck]; simp [hlt]
         ·simp only [Mp.set, if_true]; rw [zeb _ _ _ (by omega)]; omega
         ·simp only [Mp.set, if_true, List.length_append]; omega
         ·simp only [Mp.set, if_true]; exact r4
         ·simp only [Mp.set, if_true]; exact fun j j1 j2 => r5 j (by omega) (by omega)
         ·exact ((r6.drop o).later hl).append (hvn.later hl)
         ·intro j v hj
          simp only [Mp.set, if_true]
          rw [zcc _ _ _ (by omega)]
          have hdr : (vr.drop o).length = k * ie.size := by simp; omega
          by_cases hjk : j < k * ie.size
          ·rw [if_neg (by omega)]
           rw [List.getElem?_append_left (by omega), List.getElem?_drop] at hj
           rw [Nat.add_assoc]
           exact r7 _ v hj
          ·rw [List.getElem?_append_right (by omega), hdr] at hj
           have := (List.getElem?_eq_some_iff.1 hj).1
           rw [if_pos ⟨by omega, by omega⟩, ← hj]
           congr 1; omega
        ·refine .msl (zay _ _) ⟨rfl, hroom⟩ fun blk' hb' hs' => ?_
         simp only [At, newBlk, zan, if_true, qO1] at hb'
         subst hb'
         refine ⟨by simp only [List.length_append, Nat.zero_add, Nat.add_mul]; omega, .inl ⟨cap, by simp [Mp.set], hroom, by simp [Mp.set]⟩⟩
      ·refine fresh _ cap hvs (fun j u hj => ?_) (by omega) (by omega)
       rw [zcn, Nat.add_assoc]
       rw [List.getElem?_drop] at hj
       exact g2 _ u hj
     ·have e1 : vo.drop o = [] := List.eq_nil_of_length_eq_zero (by rw [← hold.length, hdl, hk0]; simp)
      by_cases hn0 : n = 0
      ·exact still ad (by rw [hvs]) hk0 hn0
      ·cases ad with
       | some bad => exact fresh bad 0 (by rw [hvs, hk0]) (fun j u hj => by rw [e1] at hj; simp at hj) (by omega) (by omega)
       | none =>
        rcases hx' with ⟨ad', cap', rfl, hspot, hcells⟩ | ⟨_, _, _, h0⟩
        ·subst hvs hk0
         have hrun := run_append_nil (P := P) w t ty e info z hu hinfo hzero ad' n cap' vn hvl hcells (by omega) (by omega) (by rw [hby]; simp only [Nat.zero_add] at hbytes; omega)
         have e3 : blk.cells.drop o = [] := List.eq_nil_of_length_eq_zero (by omega)
         have hnew := zfa h site (olds := []) (vo := []) (.nil _) hvn ie.size 0 n (grownCap w n 0 e) e z hzs (by simp) hlen (by simpa using grownCap_ge w n 0 e)
         simp only [List.nil_append, Nat.zero_add, Array.empty_append] at hnew
         rw [e3]
         simp only [List.nil_append, Nat.zero_add]
         exact ⟨_, _, _, hrun, hnew.1, hnew.2⟩
        ·exact (hn0 h0).elim
    ·cases ha
  ·cases ha
end
end Go.Sim
end
section
namespace Go.Sim
open Go
section
variable {P : Program} {s : S} {w : World}
theorem VR.int_inv {k : IntKind} {n : Int} {x : Value} (h : VR s (.int k n) x) : x = .int k n := by cases h; rfl
theorem VR.bool_inv {b : Bool} {x : Value} (h : VR s (.bool b) x) : x = .bool b := by cases h; rfl
theorem VR.str_inv {b : ByteArray} {x : Value} (h : VR s (.str b) x) : x = .string b := by cases h; rfl
theorem VR.agg_inv {cs : List AV} {x : Value} (h : VR s (.agg cs) x) : ∃ vs, x = .agg vs.toArray ∧ VRs s true cs vs := by cases h with | agg hv => exact ⟨_, rfl, hv⟩
theorem VR.tup_inv {cs : List AV} {x : Value} (h : VR s (.tup cs) x) : ∃ vs, x = .tuple vs.toArray ∧ VRs s false cs vs := by cases h with | tup hv => exact ⟨_, rfl, hv⟩
theorem ok_int {op : BinOp} {k : IntKind} {a b : Int} {v : AV} (t : Nat) (h : aInt op k a b = some v) (hs : op ≠ .shl) (hs' : op ≠ .shr) :
    ∃ y, (binOp op t (.int k a) (.int k b)).run P w = .ok y w ∧ VR s v y := by
  cases op <;> simp only [aInt] at h
  case shl => exact (hs rfl).elim
  case shr => exact (hs' rfl).elim
  case quo =>
    split at h
    · cases h
    · rename_i hb
      obtain rfl := Option.some.inj h
      exact ⟨_, by simp [binOp, Op.intDiv, hb], .int _ _⟩
  case rem =>
    split at h
    · cases h
    · rename_i hb
      obtain rfl := Option.some.inj h
      exact ⟨_, by simp [binOp, Op.intDiv, hb], .int _ _⟩
  all_goals first
    | (cases h; done)
    | (obtain rfl := Option.some.inj h
       first
       | exact ⟨_, by simp [binOp, Op.intArith, Op.intBits], .int _ _⟩
       | exact ⟨_, by simp [binOp, Op.intCmp], .bool _⟩)
theorem ok_shift {op : BinOp} {k k' : IntKind} {a b : Int} {v : AV} (t : Nat) (h : aShift op k a b = some v) (ho : op = .shl ∨ op = .shr) :
    ∃ y, (binOp op t (.int k a) (.int k' b)).run P w = .ok y w ∧ VR s v y := by
  unfold aShift at h
  split at h
  · cases h
  · rename_i hb
    rcases ho with rfl | rfl <;> simp only [qO1] at h <;> subst h <;> exact ⟨_, by simp [binOp, Op.shift, hb], .int _ _⟩
theorem zi0 (d : Nat) {t : Nat} (h : P.underlying t = some .bool) (a b : Bool) (w : World) : (Op.equalIn (d + 1) t (.bool a) (.bool b)).run P w = .ok (a == b) w := by
  simp [Op.equalIn, run_underlying h]
theorem zfl {t : Nat} (h : P.underlying t = some .bool) (a b : Bool) (w : World) : (Op.equal t (.bool a) (.bool b)).run P w = .ok (a == b) w :=
  zi0 9999 h a b w
theorem zhr {L : Nat → Option TI} (hL : LOK P L) {d e : Nat} (ih : ∀ (t : Nat) (x y : AV) (vx vy : Value) (b : Bool), VR s x vx → VR s y vy → eqT L d t x y = some b → (Op.equalIn e t vx vy).run P w = .ok b w)
    {xs ys : List AV} {vs us : List Value} (hx : VRs s true xs vs) (hy : VRs s true ys us) : ∀ (fields : List Field) {b : Bool}, fields.all (fun f => f.name != "_") = true →
    eqFs L (eqT L d) xs ys (fields.map fun f => (f.offset, f.type)) = some b → (Op.eqFields e vs.toArray us.toArray fields).run P w = .ok b w
  | [], b, _, h => by
    simp only [List.map_nil, eqFs, qO1] at h
    subst h
    simp [Op.eqFields]
  | f :: fs, b, hn, h => by
    simp only [List.all_cons, qO5, bne_iff_ne, ne_eq] at hn
    simp only [List.map_cons, eqFs] at h
    split at h
    · cases h
    rename_i j hj
    split at h
    · rename_i a c ha hc
      obtain ⟨ya, p1, q1⟩ := ze7 (hL _ _ hj) hx ha w
      obtain ⟨yc, p2, q2⟩ := ze7 (hL _ _ hj) hy hc w
      simp only [Op.eqFields, if_pos hn.1, Sem.run_bind, p1, p2, Result.andThen_ok]
      split at h
      · rename_i hr
        rw [ih _ _ _ _ _ _ q1 q2 hr]
        simpa using zhr hL ih hx hy fs hn.2 h
      · rename_i r hr
        rw [ih _ _ _ _ _ _ q1 q2 h]
        cases b
        · simp
        · exact absurd h hr
    · cases h
theorem zjq {L : Nat → Option TI} (hL : LOK P L) {d e t : Nat} (ih : ∀ (t : Nat) (x y : AV) (vx vy : Value) (b : Bool), VR s x vx → VR s y vy → eqT L d t x y = some b → (Op.equalIn e t vx vy).run P w = .ok b w)
    {j : TI} (hj : TIOK P t j) {xs ys : List AV} {vs us : List Value} (hx : VRs s true xs vs) (hy : VRs s true ys us) : ∀ (is : List Nat) {b : Bool},
    eqEs j (eqT L d t) xs ys is = some b → (Op.eqItems e t j.size vs.toArray us.toArray is).run P w = .ok b w
  | [], b, h => by
    simp only [eqEs, qO1] at h
    subst h
    simp [Op.eqItems]
  | k :: ks, b, h => by
    simp only [eqEs] at h
    split at h
    · rename_i a c ha hc
      obtain ⟨ya, p1, q1⟩ := ze7 hj hx ha w
      obtain ⟨yc, p2, q2⟩ := ze7 hj hy hc w
      simp only [Op.eqItems, Sem.run_bind, p1, p2, Result.andThen_ok]
      split at h
      · rename_i hr
        rw [ih _ _ _ _ _ _ q1 q2 hr]
        simpa using zjq hL ih hj hx hy ks h
      · rename_i r hr
        rw [ih _ _ _ _ _ _ q1 q2 h]
        cases b
        · simp
        · exact absurd h hr
    · cases h
theorem eqT_ok {L : Nat → Option TI} (hL : LOK P L) : ∀ (d e : Nat), d ≤ e → ∀ (t : Nat) (x y : AV) (vx vy : Value) (b : Bool), VR s x vx → VR s y vy → eqT L d t x y = some b → (Op.equalIn e t vx vy).run P w = .ok b w
  | 0, _, _, _, _, _, _, _, _, _, _, h => by cases h
  | d + 1, 0, hle, _, _, _, _, _, _, _, _, _ => by omega
  | d + 1, e + 1, hle, t, x, y, vx, vy, b, hx, hy, h => by
    have ih := eqT_ok hL d e (by omega)
    unfold eqT at h
    split at h
    · cases h
    rename_i i hi
    obtain ⟨info, ds, z, p1, p2, p3, p4, p5, p6, p7, p8, _⟩ := hL t i hi
    split at h
    · rename_i hd
      rw [hd] at p3
      cases hx.bool_inv; cases hy.bool_inv
      cases ds <;> simp only [TDOK] at p3
      obtain rfl := Option.some.inj h
      exact run_equalIn_bool' w e t _ _ p2
    · rename_i hd
      rw [hd] at p3
      cases hx.int_inv; cases hy.int_inv
      cases ds <;> simp only [TDOK] at p3
      split at h
      · rename_i hk
        subst hk
        obtain rfl := Option.some.inj h
        exact run_equalIn_int w e t _ _ _ _ p2
      · cases h
    · rename_i hd
      rw [hd] at p3
      cases hx.str_inv; cases hy.str_inv
      cases ds <;> simp only [TDOK] at p3
      obtain rfl := Option.some.inj h
      exact run_equalIn_string w e t _ _ p2
    · rename_i fs xs ys hd
      rw [hd] at p3 p8
      obtain ⟨vs, rfl, hv⟩ := hx.agg_inv
      obtain ⟨us, rfl, hu⟩ := hy.agg_inv
      cases ds <;> simp only [TDOK] at p3
      rename_i fields
      obtain ⟨p3, _⟩ := p3
      simp only [eqOkD, eqOkB, qO5, Bool.not_eq_true'] at p8
      have hf : P.fieldsOf t = fields := by simp only [Program.fieldsOf, p2]
      rw [run_equalIn_struct w e t _ _ (by rw [hf]; exact p2) p8.2.1, hf]
      rw [← p3] at h
      exact zhr hL ih hv hu fields.toList p8.1 h
    · rename_i n el xs ys hd
      rw [hd] at p3 p8
      obtain ⟨vs, rfl, hv⟩ := hx.agg_inv
      obtain ⟨us, rfl, hu⟩ := hy.agg_inv
      cases ds <;> simp only [TDOK] at p3
      obtain ⟨rfl, rfl⟩ := p3
      split at h
      · rename_i j hj
        have hj' := hL _ _ hj
        obtain ⟨info', ds', z', r1, r2, r3, r4, _⟩ := hj'
        rw [run_equalIn_array w e _ _ p2 r1]
        simp only [Program.cellsOf, r1, Option.map_some, Option.getD_some, r4]
        exact zjq hL ih (hL _ _ hj) hv hu _ h
      · cases h
    · cases h
theorem ok_bin {L : Nat → Option TI} (hL : LOK P L) {op : BinOp} {t : Nat} {a b v : AV} {x y : Value} (hx : VR s a x) (hy : VR s b y) (h : aBin L t op a b = some v) (ox oy : Operand) :
    ∃ z, (do eqGuard op t ox oy x y; binOp op t x y : Sem Value).run P w = .ok z w ∧ VR s v z := by
  unfold aBin at h
  split at h
  · rename_i k n k' n'
    cases hx.int_inv
    cases hy.int_inv
    have hg : (eqGuard op t ox oy (.int k n) (.int k' n')).run P w = .ok () w := by cases op <;> simp [eqGuard]
    simp only [Sem.run_bind, hg, Result.andThen_ok]
    split at h
    · exact ok_shift t h (.inl rfl)
    · exact ok_shift t h (.inr rfl)
    · rename_i h1 h2
      split at h
      · rename_i hk; subst hk; exact ok_int t h (fun e => h1 e) (fun e => h2 e)
      · cases h
  · rename_i p q
    cases hx.bool_inv
    cases hy.bool_inv
    have hg : (eqGuard op t ox oy (.bool p) (.bool q)).run P w = .ok () w := by cases op <;> simp [eqGuard]
    simp only [Sem.run_bind, hg, Result.andThen_ok]
    split at h
    · rename_i hLt
      obtain ⟨d, h1, h2, _⟩ := (hL t _ hLt).run_und
      have hb : P.underlying t = some .bool := by cases d <;> simp_all [TDOK]
      split at h
      · simp only [qO1] at h; subst h
        exact ⟨_, by simp [binOp, zfl hb], .bool _⟩
      · simp only [qO1] at h; subst h
        exact ⟨_, by simp [binOp, zfl hb], .bool _⟩
      · cases h
    · cases h
  · rename_i p q
    cases hx.str_inv
    cases hy.str_inv
    have hg : (eqGuard op t ox oy (.string p) (.string q)).run P w = .ok () w := by cases op <;> simp [eqGuard]
    simp only [Sem.run_bind, hg, Result.andThen_ok]
    split at h
    · simp only [qO1] at h; subst h
      exact ⟨_, by simp [binOp, Op.stringOp], .bool _⟩
    · simp only [qO1] at h; subst h
      exact ⟨_, by simp [binOp, Op.stringOp], .bool _⟩
    · split at h
      · rename_i hle
        simp only [qO1] at h; subst h
        have hm : ¬ (((p.size + q.size : Nat) : Int) > IntKind.i64.max) := by
          have : IntKind.i64.max = 9223372036854775807 := by decide
          omega
        refine ⟨.string (p ++ q), ?_, .str _⟩
        simp only [binOp, Op.stringOp, if_neg hm]; rfl
      · cases h
    · cases h
  · rename_i xs ys
    obtain ⟨vs, rfl, hv⟩ := hx.agg_inv
    obtain ⟨us, rfl, hu⟩ := hy.agg_inv
    have key : ∀ b, eqT L 20 t (.agg xs) (.agg ys) = some b → (Op.equalIn 10000 t (.agg vs.toArray) (.agg us.toArray)).run P w = .ok b w ∧ (eqGuard op t ox oy (.agg vs.toArray) (.agg us.toArray)).run P w = .ok () w := by
      intro b hb
      refine ⟨eqT_ok hL 20 10000 (by omega) t _ _ _ _ b hx hy hb, ?_⟩
      unfold eqT at hb
      split at hb
      · cases hb
      rename_i i hi
      obtain ⟨info, ds, z, p1, p2, p3, p4, p5, p6, p7, p8, _⟩ := hL t i hi
      split at hb
      case h_4 fs xs' ys' hd _ _ =>
        rw [hd] at p3 p8
        cases ds <;> simp only [TDOK] at p3
        simp only [eqOkD, eqOkB, qO5, Bool.not_eq_true'] at p8
        exact run_eqGuard_agg w op t ox oy _ _ p8.2.2
      case h_5 n el xs' ys' hd _ _ =>
        rw [hd] at p3 p8
        cases ds <;> simp only [TDOK] at p3
        simp only [eqOkD, eqOkB, Bool.not_eq_true'] at p8
        exact run_eqGuard_agg w op t ox oy _ _ p8
      all_goals first | (cases hb; done) | contradiction | (simp_all; done)
    split at h
    · cases hb : eqT L 20 t (.agg xs) (.agg ys) with
      | none => rw [hb] at h; cases h
      | some b =>
        rw [hb] at h
        obtain rfl := Option.some.inj h
        obtain ⟨k1, k2⟩ := key b hb
        refine ⟨.bool b, ?_, .bool _⟩
        simp only [Sem.run_bind, k2, Result.andThen_ok]
        rw [run_eql_struct, k1]; rfl
    · cases hb : eqT L 20 t (.agg xs) (.agg ys) with
      | none => rw [hb] at h; cases h
      | some b =>
        rw [hb] at h
        obtain rfl := Option.some.inj h
        obtain ⟨k1, k2⟩ := key b hb
        refine ⟨.bool (!b), ?_, .bool _⟩
        simp only [Sem.run_bind, k2, Result.andThen_ok]
        rw [run_neq_struct, k1]; rfl
    · cases h
  · cases h
theorem zj7 (d : Nat) {t e : Nat} (h : P.underlying t = some (.pointer e)) (pa pb : Option Addr) (hn : pa = none ∨ pb = none) (w : World) : (Op.equalIn (d + 1) t (.pointer pa) (.pointer pb)).run P w = .ok (pa.isNone && pb.isNone) w := by
  rcases hn with rfl | rfl
  · simp [Op.equalIn, run_underlying h]
  · cases pa <;> simp [Op.equalIn, run_underlying h]
theorem zmf {t e : Nat} (h : P.underlying t = some (.pointer e)) (pa pb : Option Addr) (hn : pa = none ∨ pb = none) (w : World) : (Op.equal t (.pointer pa) (.pointer pb)).run P w = .ok (pa.isNone && pb.isNone) w :=
  zj7 9999 h pa pb hn w
theorem zjb (d : Nat) {t : Nat} {ms} (h : P.underlying t = some (.interface ms)) (w : World) : (Op.equalIn (d + 1) t .nilIface .nilIface).run P w = .ok true w := by
  simp [Op.equalIn, run_underlying h]
theorem zlx {t : Nat} {ms} (h : P.underlying t = some (.interface ms)) (w : World) : (Op.equal t .nilIface .nilIface).run P w = .ok true w :=
  zjb 9999 h w
theorem zh5 (d : Nat) (w : World) {t T : Nat} {u : Value} {ms} (h : P.underlying t = some (.interface ms)) : (Op.equalIn (d + 1) t (.iface T u) .nilIface).run P w = .ok false w := by
  simp [Op.equalIn, run_underlying h]
theorem zhg (d : Nat) (w : World) {t T : Nat} {u : Value} {ms} (h : P.underlying t = some (.interface ms)) : (Op.equalIn (d + 1) t .nilIface (.iface T u)).run P w = .ok false w := by
  simp [Op.equalIn, run_underlying h]
theorem zjv (w : World) {t T : Nat} {u : Value} {ms} (h : P.underlying t = some (.interface ms)) : (Op.equal t (.iface T u) .nilIface).run P w = .ok false w := zh5 9999 w h
theorem zik (w : World) {t T : Nat} {u : Value} {ms} (h : P.underlying t = some (.interface ms)) : (Op.equal t .nilIface (.iface T u)).run P w = .ok false w := zhg 9999 w h
theorem zjy (hG : GlobP P s.m.gl) (hW : GlobS s) {t : Nat} {ms} (h : P.underlying t = some (.interface ms)) {g g' : Nat} {x y : Value} (hx : VR s (.err g) x) (hy : VR s (.err g') y) : (Op.equal t x y).run P s.w = .ok (decide (g = g')) s.w := by
  cases hx with
  | err ha =>
  obtain ⟨T, te, i, j, h1, h2, h3, h4, h5, hs⟩ := hG.shape _ _ ha
  cases hy with
  | err hb =>
  obtain ⟨a', ea⟩ := hs _ _ ha
  obtain ⟨b', eb⟩ := hs _ _ hb
  cases ea
  cases eb
  by_cases e : g = g'
  · subst e
    rw [ha] at hb
    cases hb
    rw [decide_eq_true rfl]
    exact run_equalIn_iface_ptr_same s.w 9998 _ h h1 h2 h3 h4
  · rw [decide_eq_false e]
    obtain ⟨ca, ta, qa⟩ := (hW _ _ ha).2 _ _ rfl
    obtain ⟨cb, tb, qb⟩ := (hW _ _ hb).2 _ _ rfl
    exact run_equalIn_iface_ptr_other s.w 9998 h h1 h2 h3 h4 (by omega) (fun q => e (hG.inj _ _ _ ha (by rw [q]; exact hb))) qa qb
theorem nilCmp_ok (hG : GlobP P s.m.gl) (hW : GlobS s) {c i b : Bool} {a a' : AV} {x y : Value} (hx : VR s a x) (hy : VR s a' y) (h : nilCmp c a a' = some (i, b)) :
    (i = false ∧ ∃ pa pb : Option Addr, x = .pointer pa ∧ y = .pointer pb ∧ (pa = none ∨ pb = none) ∧ b = (pa.isNone && pb.isNone)) ∨ (i = true ∧ x = .nilIface ∧ y = .nilIface ∧ b = true ∧ c = true) ∨
    (i = true ∧ ((∃ T u, x = .iface T u ∧ y = .nilIface) ∨ (∃ T u, x = .nilIface ∧ y = .iface T u) ∨ (∃ T u T' u', x = .iface T u ∧ y = .iface T' u')) ∧ ∀ t ms, P.underlying t = some (.interface ms) → (Op.equal t x y).run P s.w = .ok b s.w) := by
  unfold nilCmp at h
  split at h
  · simp only [qO1, qO4] at h
    obtain ⟨rfl, rfl⟩ := h
    cases hx; cases hy
    exact .inl ⟨rfl, none, none, rfl, rfl, .inl rfl, rfl⟩
  · simp only [qO1, qO4] at h
    obtain ⟨rfl, rfl⟩ := h
    cases hx; cases hy
    exact .inl ⟨rfl, _, none, rfl, rfl, .inr rfl, rfl⟩
  · simp only [qO1, qO4] at h
    obtain ⟨rfl, rfl⟩ := h
    cases hx; cases hy
    exact .inl ⟨rfl, _, none, rfl, rfl, .inr rfl, rfl⟩
  · simp only [qO1, qO4] at h
    obtain ⟨rfl, rfl⟩ := h
    cases hx; cases hy
    exact .inl ⟨rfl, none, _, rfl, rfl, .inl rfl, rfl⟩
  · simp only [qO1, qO4] at h
    obtain ⟨rfl, rfl⟩ := h
    cases hx; cases hy
    exact .inl ⟨rfl, none, _, rfl, rfl, .inl rfl, rfl⟩
  · cases c with
    | false => simp at h
    | true =>
      simp only [if_true, qO1, qO4] at h
      obtain ⟨rfl, rfl⟩ := h
      cases hx; cases hy
      exact .inr (.inl ⟨rfl, rfl, rfl, rfl, rfl⟩)
  · simp only [qO1, qO4] at h
    obtain ⟨rfl, rfl⟩ := h
    cases hx; cases hy
    exact .inr (.inr ⟨rfl, .inl ⟨_, _, rfl, rfl⟩, fun t ms h => zjv s.w h⟩)
  · simp only [qO1, qO4] at h
    obtain ⟨rfl, rfl⟩ := h
    cases hx; cases hy
    exact .inr (.inr ⟨rfl, .inr (.inl ⟨_, _, rfl, rfl⟩), fun t ms h => zik s.w h⟩)
  · simp only [qO1, qO4] at h
    obtain ⟨rfl, rfl⟩ := h
    refine .inr (.inr ⟨rfl, .inr (.inr ?_), fun t ms h => zjy hG hW h hx hy⟩)
    cases hx; cases hy
    exact ⟨_, _, _, _, rfl, rfl⟩
  · cases h
theorem ok_binN (hG : GlobP P s.m.gl) (hW : GlobS s) {L : Nat → Option TI} (hL : LOK P L) {op : BinOp} {t : Nat} {a b v : AV} {x y : Value} (hx : VR s a x) (hy : VR s b y) (ox oy : Operand) (h : aBinN L t op (isConstO ox || isConstO oy) a b = some v) :
    ∃ z, (do eqGuard op t ox oy x y; binOp op t x y : Sem Value).run P s.w = .ok z s.w ∧ VR s v z := by
  unfold aBinN at h
  split at h
  · rename_i i b hn
    have key : ∃ r : Bool, ((op = .eql ∧ r = b) ∨ (op = .neq ∧ r = !b)) ∧ v = .bool r ∧ ((i = false ∧ ∃ e, P.underlying t = some (.pointer e)) ∨ (i = true ∧ ∃ ms, P.underlying t = some (.interface ms))) := by
      unfold nilOp at h
      split at h
      · rename_i j hj
        obtain ⟨d, q1, q2, _⟩ := (hL t j hj).run_und
        split at h
        all_goals first
          | (rename_i he; simp only [qO1] at h; subst h; rw [he] at q1; cases d <;> simp only [TDOK] at q1; first
              | exact ⟨_, .inl ⟨rfl, rfl⟩, rfl, .inl ⟨rfl, _, q2⟩⟩
              | exact ⟨_, .inl ⟨rfl, rfl⟩, rfl, .inr ⟨rfl, _, q2⟩⟩
              | exact ⟨_, .inr ⟨rfl, rfl⟩, rfl, .inl ⟨rfl, _, q2⟩⟩
              | exact ⟨_, .inr ⟨rfl, rfl⟩, rfl, .inr ⟨rfl, _, q2⟩⟩)
          | cases h
      · cases h
    obtain ⟨r, hop, rfl, hty⟩ := key
    refine ⟨.bool r, ?_, .bool _⟩
    rcases nilCmp_ok hG hW hx hy hn with ⟨rfl, pa, pb, rfl, rfl, h1, rfl⟩ | ⟨rfl, rfl, rfl, rfl, hc⟩ | ⟨rfl, hsh, hq⟩
    · obtain ⟨e, he⟩ := (hty.resolve_right (fun q => by cases q.1)).2
      have hq := zmf he pa pb h1 s.w
      rcases hop with ⟨rfl, rfl⟩ | ⟨rfl, rfl⟩ <;> simp [eqGuard, binOp, hq]
    · obtain ⟨ms, he⟩ := (hty.resolve_left (fun q => by cases q.1)).2
      have hq := zlx he s.w
      clear hn h
      rcases hop with ⟨rfl, rfl⟩ | ⟨rfl, rfl⟩ <;> cases ox <;> cases oy <;> first | (simp [isConstO] at hc; done) | simp [eqGuard, binOp, hq]
    · obtain ⟨ms, he⟩ := (hty.resolve_left (fun q => by cases q.1)).2
      have hq := hq t ms he
      clear hn h
      rcases hsh with ⟨T, u, rfl, rfl⟩ | ⟨T, u, rfl, rfl⟩ | ⟨T, u, T', u', rfl, rfl⟩ <;> rcases hop with ⟨rfl, rfl⟩ | ⟨rfl, rfl⟩ <;> simp [eqGuard, binOp, hq]
  · exact ok_bin hL hx hy h ox oy
theorem ok_as (hG : GlobP P s.m.gl) {L : Nat → Option TI} (hL : LOK P L) {t xT : Nat} {ok : Bool} {a v : AV} {x : Value} (hx : VR s a x) (h : aAs L t ok a = some v) : ∃ z, (Instr.typeAssert x xT t ok).run P w = .ok z w ∧ VR s v z := by
  have key : ∀ (h : aAsT L t ok = some v), ∃ i e j, ok = true ∧ P.underlying t = some (.pointer e) ∧ TIOK P e j ∧ j.size ≠ 1 ∧ TIOK P t i ∧ v = .tup [i.zeroAV, .bool false] := by
    intro h
    unfold aAsT at h
    cases ok with
    | false => simp at h
    | true =>
      cases hi : L t with
      | none => simp [hi] at h
      | some i =>
        simp only [hi] at h
        split at h
        · rename_i e hd
          cases hj : L e with
          | none => simp [hj] at h
          | some j =>
            simp only [hj] at h
            split at h
            · cases h
            · rename_i hne
              have hI := hL t i hi
              obtain ⟨info, d, z, _, h2, h3, _⟩ := hL t i hi
              rw [hd] at h3
              cases d <;> simp only [TDOK] at h3
              subst h3
              exact ⟨i, e, j, rfl, h2, hL e j hj, fun q => hne (by rw [q]; rfl), hI, (Option.some.inj h).symm⟩
        · cases h
  unfold aAs at h
  split at h
  · obtain ⟨i, e, j, rfl, h1, h2, h3, h4, rfl⟩ := key h
    cases hx with
    | err ha =>
    obtain ⟨T, te, i', j', q1, q2, q3, q4, q5, hs⟩ := hG.shape _ _ ha
    obtain ⟨a', ea⟩ := hs _ _ ha
    obtain ⟨z, k1, k2⟩ := h4.run_zeroAV s
    have hne : ¬ T = t := by
      intro eT
      rw [eT, h1] at q1
      cases q1
      obtain ⟨info, d, z, g1, _, _, g4, _⟩ := h2
      rw [q4] at g1
      cases g1
      omega
    cases ea
    exact ⟨.tuple #[z, .bool false], by simp [Instr.typeAssert, run_underlying h1, hne, k2], .tup (vs := [z, .bool false]) (.cons (fun e => by cases e) k1 (.cons (fun e => by cases e) (.bool _) (.nil _)))⟩
  · obtain ⟨i, e, j, rfl, h1, h2, h3, h4, rfl⟩ := key h
    cases hx
    obtain ⟨z, k1, k2⟩ := h4.run_zeroAV s
    exact ⟨.tuple #[z, .bool false], by simp [Instr.typeAssert, run_underlying h1, k2], .tup (vs := [z, .bool false]) (.cons (fun e => by cases e) k1 (.cons (fun e => by cases e) (.bool _) (.nil _)))⟩
  · cases h
theorem ok_un {op : UnOp} {a v : AV} {x : Value} (hx : VR s a x) (h : aUn op a = some v) : ∃ z, (Op.unary op x).run P w = .ok z w ∧ VR s v z := by
  unfold aUn at h
  split at h
  · cases hx.int_inv
    simp only [aInt, qO1] at h; subst h
    exact ⟨_, by simp [Op.unary, Op.intArith], .int _ _⟩
  · cases hx.int_inv
    simp only [aInt, qO1] at h; subst h
    exact ⟨_, by simp [Op.unary, Op.intBits], .int _ _⟩
  · cases hx.bool_inv
    simp only [qO1] at h; subst h
    exact ⟨_, by simp [Op.unary], .bool _⟩
  · cases h
theorem zl2 {L : Nat → Option TI} (hL : LOK P L) {t f o : Nat} {j : TI} (h : fieldOf L t f = some (o, j)) :
    ∃ fs fd, P.underlying t = some (.struct fs) ∧ fs[f]? = some fd ∧ fd.offset = o ∧ TIOK P fd.type j := by
  unfold fieldOf at h
  cases hi : L t with
  | none => simp [hi] at h
  | some i =>
    simp only [hi, qO3, qO2] at h
    split at h
    · rename_i fs hd
      cases hf : fs[f]? with
      | none => simp [hf] at h
      | some p =>
        obtain ⟨o', ty⟩ := p
        simp only [hf, qO2] at h
        cases hj : L ty with
        | none => simp [hj] at h
        | some j' =>
          simp only [hj, qO2, qO1, qO4] at h
          obtain ⟨rfl, rfl⟩ := h
          obtain ⟨d, h1, h2, h9⟩ := (hL t i hi).run_und
          clear h9
          rw [hd] at h1
          cases d <;> simp only [TDOK] at h1
          rename_i fields
          obtain ⟨h1, _⟩ := h1
          subst h1
          rw [List.getElem?_map] at hf
          cases hg : fields.toList[f]? with
          | none => simp [hg] at hf
          | some fd =>
            simp only [hg, Option.map_some, qO1, qO4] at hf
            exact ⟨fields, fd, h2, by simpa using hg, hf.1, by rw [hf.2]; exact hL ty _ hj⟩
    · cases h
theorem ok_field {L : Nat → Option TI} (hL : LOK P L) {t f o : Nat} {j : TI} (hf : fieldOf L t f = some (o, j)) {cs : List AV} {x : Value} (hx : VR s (.agg cs) x) {v : AV} (hr : rdCells j cs o = some v) :
    ∃ y, (Instr.field t x f).run P w = .ok y w ∧ VR s v y := by
  obtain ⟨fs, fd, h1, h2, h3, h4⟩ := zl2 hL hf
  obtain ⟨vs, rfl, hv⟩ := hx.agg_inv
  obtain ⟨y, g1, g2⟩ := ze7 (P := P) h4 hv hr w
  refine ⟨y, ?_, g2⟩
  subst h3
  simp [Instr.field, run_underlying h1, h2, asAgg, g1]
theorem zju {j : TI} {fd : Field} (h : TIOK P fd.type j) (h0 : j.size ≠ 0) (ad : Addr) : (fieldPlace ad fd).run P w = .ok (ad.add fd.offset) w := by
  simp [fieldPlace, h.run_size, h0]
theorem Reads.drop {a : Addr} {vs : List Value} (h : Reads s a vs) (n : Nat) : Reads s ⟨a.block, a.off + n, none⟩ (vs.drop n) := fun k v hk => by
  rw [List.getElem?_drop] at hk
  simpa [Nat.add_assoc] using h _ v hk
theorem VR.ref_add {k : Nat} {σ : Nat × Nat} {o : Nat} {x : Value} (h : VR s (.ref k σ o) x) : ∃ b o', x = .pointer (some ⟨b, o', none⟩) ∧ ∀ n, VR s (.ref k σ (o + n)) (.pointer (some ⟨b, o' + n, none⟩)) := by
  cases h with
  | ref hok hl =>
    exact ⟨_, _, rfl, fun n => .ref hok fun blk hb hst => by obtain ⟨h1, h2⟩ := hl blk hb hst; exact ⟨h1, by omega⟩⟩
theorem VR.ipt_add {cells : List AV} {x : Value} (h : VR s (.ipt cells) x) : ∃ b o, x = .pointer (some ⟨b, o, none⟩) ∧ ∀ n, VR s (.ipt (cells.drop n)) (.pointer (some ⟨b, o + n, none⟩)) := by
  obtain ⟨a, vs, rfl, hr, hv⟩ := h.ipt_inv
  exact ⟨_, _, rfl, fun n => .ipt rfl (hr.drop n) (hv.drop n)⟩
theorem zhq {L : Nat → Option TI} (hL : LOK P L) {t f o : Nat} {j : TI} (hf : fieldOf L t f = some (o, j)) (h0 : j.size ≠ 0) {b k : Nat} :
    (Instr.fieldAt t (.pointer (some ⟨b, k, none⟩)) f).run P w = .ok (.pointer (some ⟨b, k + o, none⟩)) w := by
  obtain ⟨fs, fd, h1, h2, h3, h4⟩ := zl2 hL hf
  subst h3
  simp [Instr.fieldAt, run_underlying h1, h2, Instr.sureAddr, zju h4 h0, zcn]
theorem arrBy {L : Nat → Option TI} (hL : LOK P L) {t n e : Nat} {i : TI} (h : L t = some i) (hd : i.desc = .arr n e) : P.underlying t = some (.array n e) := by
  obtain ⟨d, h1, h2, _⟩ := (hL t i h).run_und
  rw [hd] at h1
  cases d <;> simp_all [TDOK]
theorem strBy {L : Nat → Option TI} (hL : LOK P L) {t : Nat} {i : TI} (h : L t = some i) (hd : i.desc = .str) : P.underlying t = some .string := by
  obtain ⟨d, h1, h2, _⟩ := (hL t i h).run_und
  rw [hd] at h1
  cases d <;> simp_all [TDOK]
theorem intBy {L : Nat → Option TI} (hL : LOK P L) {t : Nat} {i : TI} {k : IntKind} (h : L t = some i) (hd : i.desc = .int k) : P.underlying t = some (.int k) := by
  obtain ⟨d, h1, h2, _⟩ := (hL t i h).run_und
  rw [hd] at h1
  cases d <;> simp_all [TDOK]
theorem zeo {L : Nat → Option TI} (hL : LOK P L) {t : Nat} {j : TI} (h : slElem L t = some j) : ∃ e i, L t = some i ∧ i.desc = .slice e ∧ P.underlying t = some (.slice e) ∧ TIOK P e j := by
  unfold slElem at h
  cases hi : L t with
  | none => simp [hi] at h
  | some i =>
    simp only [hi, qO3, qO2] at h
    split at h
    · rename_i e hd
      exact ⟨e, i, rfl, hd, sliceBy (hL t i hi) hd, hL e j h⟩
    · cases h
theorem zfh {a : AV} {n : Int} {x : Value} (hx : VR s a x) (h : asInt? a = some n) : ∃ k, x = .int k n := by
  unfold asInt? at h
  split at h
  · cases h; exact ⟨_, hx.int_inv⟩
  · cases h
theorem zeh {t n e : Nat} {j : TI} (hu : P.underlying t = some (.array n e)) (hj : TIOK P e j) (kk : IntKind) (k : Int) (h0 : 0 ≤ k) (h1 : k < n) (b o : Nat) :
    (Instr.indexAt t (.pointer (some ⟨b, o, none⟩)) (.int kk k)).run P w = .ok (.pointer (some ⟨b, o + k.toNat * j.size, none⟩)) w := by
  simp [Instr.indexAt, asIntOf, run_underlying hu, Instr.sureAddr, h0, h1, hj.run_size, zcn]
theorem zdq {t e : Nat} {j : TI} (hu : P.underlying t = some (.slice e)) (hj : TIOK P e j) (kk : IntKind) (k : Int) (h0 : 0 ≤ k) (n cap : Nat) (h1 : k < n) (ad : Addr) :
    (Instr.indexAt t (.slice (some ad) n cap) (.int kk k)).run P w = .ok (.pointer (some (ad.add (k.toNat * j.size)))) w := by
  simp [Instr.indexAt, asIntOf, run_underlying hu, h0, h1, hj.run_size]
theorem zml {t n e : Nat} {j : TI} (hu : P.underlying t = some (.array n e)) (hj : TIOK P e j) {cs : List AV} {x : Value} (hx : VR s (.agg cs) x) (kk : IntKind) (k : Int) (h0 : 0 ≤ k) (h1 : k < n)
    {v : AV} (hr : rdCells j cs (k.toNat * j.size) = some v) : ∃ y, (Instr.index t x (.int kk k)).run P w = .ok y w ∧ VR s v y := by
  obtain ⟨vs, rfl, hv⟩ := hx.agg_inv
  obtain ⟨y, g1, g2⟩ := ze7 (P := P) hj hv hr w
  exact ⟨y, by simp [Instr.index, asIntOf, run_underlying hu, h0, h1, hj.run_size, g1], g2⟩
theorem zn5 {t : Nat} (hu : P.underlying t = some .string) {b : ByteArray} (kk : IntKind) (k : Int) (h0 : 0 ≤ k) {u : UInt8} (hb : b[k.toNat]? = some u) :
    (Instr.index t (.string b) (.int kk k)).run P w = .ok (.int .u8 u.toNat) w := by
  simp [Instr.index, asIntOf, run_underlying hu, h0, hb]
theorem zim (kk : IntKind) (k : Int) (y : Nat) (code : BoundsCode) (h0 : 0 ≤ k) (h1 : k ≤ y) : (Instr.sliceBound (.int kk k) y code).run P w = .ok k.toNat w := run_sliceBound w kk k y code h0 h1
theorem zjl (isSl : Bool) (len cap : Nat) (hlc : len ≤ cap) {lo hi : Option AV} {xl xh : Option Value} {l h : Int}
    (hlo : ∀ a, lo = some a → ∃ k n, xl = some (.int k n) ∧ asInt? a = some n) (hlo' : lo = none → xl = none)
    (hhi : ∀ a, hi = some a → ∃ k n, xh = some (.int k n) ∧ asInt? a = some n) (hhi' : hi = none → xh = none)
    (el : bnd 0 lo = some l) (eh : bnd len hi = some h)
    (h0 : 0 ≤ l) (h1 : l ≤ h) (h2 : h ≤ len) :
    (Instr.sliceBounds isSl len cap xl xh none).run P w = .ok (l.toNat, h.toNat, cap) w := by
  have bh : ∀ (kk : IntKind) (code : BoundsCode), (Instr.sliceBound (.int kk h) cap code).run P w = .ok h.toNat w := fun kk code => zim kk h cap code (by omega) (by omega)
  have bl : ∀ (kk : IntKind) (code : BoundsCode), (Instr.sliceBound (.int kk l) h.toNat code).run P w = .ok l.toNat w := fun kk code => zim kk l h.toNat code h0 (by omega)
  cases lo with
  | none =>
    simp only [bnd, qO1] at el
    rw [hlo' rfl]
    cases hi with
    | none =>
      simp only [bnd, qO1] at eh
      rw [hhi' rfl]
      subst el eh
      simp [Instr.sliceBounds]
    | some ah =>
      obtain ⟨kh, nh, e1, e2⟩ := hhi ah rfl
      simp only [bnd, e2, qO1] at eh
      subst e1 eh el
      simp [Instr.sliceBounds, bh]
  | some al =>
    obtain ⟨kl, nl, e3, e4⟩ := hlo al rfl
    simp only [bnd, e4, qO1] at el
    subst e3 el
    cases hi with
    | none =>
      simp only [bnd, qO1] at eh
      rw [hhi' rfl]
      subst eh
      have := bl kl .sliceB
      simp only [Int.toNat_natCast] at this
      simp [Instr.sliceBounds, this]
    | some ah =>
      obtain ⟨kh, nh, e1, e2⟩ := hhi ah rfl
      simp only [bnd, e2, qO1] at eh
      subst e1 eh
      simp [Instr.sliceBounds, bh, bl]
end
end Go.Sim
end
section
namespace Go.Sim
open Go
theorem zhf {α : Type} [Inhabited α] (z : Array α) (n : Nat) : ((Array.range (n * z.size)).map fun i => z[i % z.size]!).toList = (List.replicate n z.toList).flatten := by
 rw [Array.toList_map, Array.toList_range]
 induction n with
 | zero => simp
 | succ n ih =>
  rw [Nat.succ_mul, List.range_add, List.map_append, ih, List.replicate_succ', List.flatten_append]
  congr 1
  simp only [List.map_map, List.flatten_cons, List.flatten_nil, List.append_nil]
  apply List.ext_getElem
  ·simp
  ·intro i h1 h2
   simp only [List.length_map, List.length_range] at h1
   have : (n * z.size + i) % z.size = i := by rw [Nat.mul_comm, Nat.mul_add_mod, Nat.mod_eq_of_lt h1]
   simp [this, getElem!_pos z i h1]
theorem zhy (off : Nat) : ∀ (l : List Value) (k : Nat) (cs : Array Value), off + k + l.length ≤ cs.size →
  (l.zipIdx k).foldl (fun cs (x : Value × Nat) => cs.setIfInBounds (off + x.2) x.1) cs = splice cs (off + k) l
 | [], k, cs, h => by
  have : splice cs (off + k) [] = cs := by apply Array.ext'; simp [splice]
  simp [this]
 | v :: l, k, cs, h => by
  simp only [List.length_cons] at h
  simp only [List.zipIdx_cons, List.foldl_cons]
  rw [zhy off l (k + 1) _ (by simp; omega)]
  apply Array.ext_getElem?
  intro j
  rw [zcc _ _ _ (by simp; omega), zcc _ _ _ (by simp; omega), Array.getElem?_setIfInBounds]
  by_cases e1 : j = off + k
  ·rw [if_neg (by omega), if_pos e1.symm, if_pos (by omega), if_pos (by simp; omega), show j - (off + k) = 0 from by omega]
   rfl
  ·by_cases e2 : off + k ≤ j ∧ j < off + k + (v :: l).length
   ·simp only [List.length_cons] at e2
    rw [if_pos (by omega), if_pos (by simp; omega)]
    obtain ⟨i, rfl⟩ : ∃ i, j = off + k + 1 + i := ⟨j - (off + k + 1), by omega⟩
    rw [show off + k + 1 + i - (off + k) = i + 1 from by omega, show off + k + 1 + i - (off + (k + 1)) = i from by omega]
    simp
   ·rw [if_neg e2]
    simp only [List.length_cons] at e2
    rw [if_neg (by omega), if_neg (by omega)]
section
variable {P : Program} {s : S} {w : World}
inductive PQs (s : S) : List (Nat × AV) → List (Nat × Value) → Prop
 | nil : PQs s [] []
 | cons {i : Nat} {c : AV} {x : Value} {ps : List (Nat × AV)} {qs : List (Nat × Value)} (h : VR s c x) (hs : PQs s ps qs) : PQs s ((i, c) :: ps) ((i, x) :: qs)
theorem zlj {place placeA : Nat → Option (Nat × Nat)} : ∀ (ps : List (Nat × AV)) (qs : List (Nat × Value)) (cells cells' : List AV) (vs : List Value),
  PQs s ps qs → (∀ p ∈ ps, ∀ r, placeA p.1 = some r → place p.1 = some r) → VRs s true cells vs → fillA placeA cells ps = some cells' →
  ∃ vs', Instr.fill place vs.toArray qs = some vs'.toArray ∧ VRs s true cells' vs'
 | [], _, cells, cells', vs, .nil, _, hv, h => by
  simp only [fillA, qO1] at h
  subst h
  exact ⟨vs, rfl, hv⟩
 | (i, c) :: ps, (_, x) :: qs, cells, cells', vs, .cons hc hrest, hpl, hv, h => by
  unfold fillA at h
  cases hp : placeA i with
  | none => simp [hp] at h
  | some r =>
   obtain ⟨off, size⟩ := r
   simp only [hp] at h
   split at h
   ·rename_i hcnd
    obtain ⟨h1, h2, h3⟩ := hcnd
    have hd := hc.cells h1
    have hl := hv.length
    have hdl := hd.length
    have hsz : x.cells.size = size := by simp at hdl; omega
    obtain ⟨vs', g1, g2⟩ := zlj ps qs (setR cells off c.cells) cells' (vs.take off ++ x.cells.toList ++ vs.drop (off + x.cells.toList.length)) hrest (fun p hp' => hpl p (by simp [hp'])) (hv.setR hd off) h
    refine ⟨vs', ?_, g2⟩
    unfold Instr.fill
    rw [hpl (i, c) (by simp) _ hp]
    simp only
    rw [if_neg (by simp; omega)]
    have hf := zhy off x.cells.toList 0 vs.toArray (by simp; omega)
    simp only [Nat.add_zero] at hf
    rw [← Array.foldl_toList, Array.toList_zipIdx]
    have : (List.foldl (fun cs (x : Value × Nat) => match x with | (c, j) => cs.setIfInBounds (off + j) c) vs.toArray (x.cells.toList.zipIdx)) = splice vs.toArray off x.cells.toList := hf
    rw [this]
    exact g1
   ·cases h
theorem zms {t e : Nat} {j : TI} (hu : P.underlying t = some (.slice e)) (hj : TIOK P e j) {pa : Option Addr} {len cap l h : Nat} {xl xh : Option Value}
  (hb : (Instr.sliceBounds true len cap xl xh none).run P w = .ok (l, h, cap) w) :
  (Instr.sliceAt t (.slice pa len cap) xl xh none).run P w = .ok (.slice (if cap = l then pa else pa.map (·.add (l * j.size))) (h - l) (cap - l)) w := by
 simp [Instr.sliceAt, Instr.slice, run_underlying hu, hb, hj.run_size]
theorem zm8 {t n e : Nat} {j : TI} (hu : P.underlying t = some (.array n e)) (hj : TIOK P e j) {ad : Addr} {l h : Nat} {xl xh : Option Value}
  (hb : (Instr.sliceBounds false n n xl xh none).run P w = .ok (l, h, n) w) :
  (Instr.sliceAt t (.pointer (some ad)) xl xh none).run P w = .ok (.slice (if n = l then some ad else (some ad).map (·.add (l * j.size))) (h - l) (n - l)) w := by
 simp only [Instr.sliceAt, Sem.run_bind, run_underlying hu, Result.andThen_ok, Instr.sureAddr, Sem.run_pure, hb, hj.run_size]
 by_cases e : n = l <;> simp [e]
theorem zk7 {z n len cap l h : Nat} {cells : List AV} {pa : Option Addr}
  (hx : (∃ ad cap', ∃ vs, Value.slice pa len cap = .slice (some ad) n cap' ∧ ad.spot = none ∧ cells.length = n * z ∧ Reads s ad vs ∧ VRs s true cells vs) ∨ (∃ ad cap', Value.slice pa len cap = .slice ad 0 cap' ∧ n = 0 ∧ cells = []))
  (hlc : len ≤ cap) (h1 : l ≤ h) (h2 : h ≤ len) : VR s (.isl z (h - l) ((cells.drop (l * z)).take ((h - l) * z))) (.slice (if cap = l then pa else pa.map (·.add (l * z))) (h - l) (cap - l)) := by
 rcases hx with ⟨ad, cap', vs, e, hs, hlen, hr, hv⟩ | ⟨ad, cap', e, rfl, rfl⟩
 ·cases e
  by_cases hcl : cap = l
  ·have : h - l = 0 := by omega
   rw [this]
   simp only [Nat.zero_mul, List.take_zero]
   exact .islnil
  ·rw [if_neg hcl, Option.map_some, zd7 hs]
   have m1 : l * z + (h - l) * z ≤ n * z := by rw [← Nat.add_mul]; exact Nat.mul_le_mul_right _ (by omega)
   refine .isl (vs := (vs.drop (l * z)).take ((h - l) * z)) rfl (by omega) (by simp; omega) (fun k v hk => ?_) ((hv.drop _).take _)
   rw [List.getElem?_take] at hk
   split at hk
   ·exact hr.drop (l * z) k v hk
   ·cases hk
 ·cases e
  have : h - l = 0 := by omega
  rw [this]
  simp only [Nat.zero_mul, List.take_zero]
  exact .islnil
theorem ok_cut {v : AV} {sz len cap l h : Nat} {pa : Option Addr} : ∀ {av : AV} (hx : VR s av (.slice pa len cap)) (hlc : len ≤ cap) (h1 : l ≤ h) (h2 : h ≤ len) (ha : cutA sz l h av = some v),
  VR s v (.slice (if cap = l then pa else pa.map (·.add (l * sz))) (h - l) (cap - l))
 | .msl k g z o n, hx, hlc, h1, h2, ha => by
  simp only [cutA] at ha
  split at ha
  ·rename_i hz
   subst hz
   simp only [qO1] at ha
   subst ha
   cases hx with
   | msl hok hv hl =>
    obtain ⟨rfl, _⟩ := hv
    refine .msl hok ⟨rfl, by omega⟩ fun blk hb hs => ?_
    obtain ⟨g1, g2⟩ := hl blk hb hs
    have m1 : l * z + (h - l) * z ≤ len * z := by rw [← Nat.add_mul]; exact Nat.mul_le_mul_right _ (by omega)
    refine ⟨by omega, ?_⟩
    rcases g2 with ⟨cap', hvv, c1, c2⟩ | ⟨c1, ad, hvv⟩
    ·cases hvv
     by_cases hcl : cap = l
     ·refine .inr ⟨by omega, some ⟨(s.m.base k).1, (s.m.base k).2 + o, none⟩, ?_⟩
      rw [if_pos hcl, show h - l = 0 by omega, show cap - l = 0 by omega]
     ·have m2 : l * z + (cap - l) * z = cap * z := by rw [← Nat.add_mul]; congr 1; omega
      refine .inl ⟨cap - l, ?_, by omega, by omega⟩
      rw [if_neg hcl]
      simp [zcn, Nat.add_assoc]
    ·cases hvv
     refine .inr ⟨by omega, pa, ?_⟩
     rw [if_pos (by omega), show h - l = 0 by omega, show 0 - l = 0 by omega]
  ·cases ha
 | .isl z n cells, hx, hlc, h1, h2, ha => by
  simp only [cutA] at ha
  split at ha
  ·rename_i hz
   obtain ⟨rfl, hlen⟩ := hz
   simp only [qO1] at ha
   subst ha
   exact zk7 (VR.isl_inv (.inl hx)) hlc h1 h2
  ·cases ha
 | .fsl z n cells, hx, hlc, h1, h2, ha => by
  simp only [cutA] at ha
  split at ha
  ·rename_i hz
   obtain ⟨rfl, hlen⟩ := hz
   simp only [qO1] at ha
   subst ha
   exact zk7 (VR.isl_inv (.inr hx)) hlc h1 h2
  ·cases ha
 | .nsl, hx, hlc, h1, h2, ha => by
  simp only [cutA, qO1] at ha
  subst ha
  cases hx
  have : l = 0 := by omega
  subst this
  have : h = 0 := by omega
  subst this
  simpa using VR.nsl
 | .junk, _, _, _, _, ha | .bool _, _, _, _, _, ha | .int _ _, _, _, _, _, ha | .str _, _, _, _, _, ha | .nilp, _, _, _, _, ha | .ref _ _ _, _, _, _, _, ha
 | .ipt _, _, _, _, _, ha | .agg _, _, _, _, _, ha | .tup _, _, _, _, _, ha | .nilI, _, _, _, _, ha | .nilF, _, _, _, _, ha | .fn _ _, _, _, _, _, ha => by simp [cutA] at ha
theorem zlz {av : AV} {n : Nat} {x : Value} (hx : VR s av x) (h : slLen av = some n) : (∃ b, av = .str b ∧ x = .string b ∧ n = b.size) ∨ ∃ pa cap, x = .slice pa n cap ∧ n ≤ cap := by
 cases av <;> simp only [slLen, qO1] at h <;> first | (cases h; done) | skip
 case str b => subst h; exact .inl ⟨b, rfl, hx.str_inv, rfl⟩
 case nsl => subst h; cases hx; exact .inr ⟨_, 0, rfl, Nat.le_refl _⟩
 case msl =>
  subst h
  cases hx with
  | msl hok hv hl =>
   cases x <;> first | (simp only [isSlice] at hv; done) | skip
   all_goals first | exact hv.elim | exact .inr ⟨_, _, by rw [hv.1], hv.2⟩
 case isl z m c =>
  subst h
  cases hx
  ·rename_i h1 h2 h3 h4; exact .inr ⟨_, _, rfl, by assumption⟩
  ·exact .inr ⟨_, _, rfl, Nat.zero_le _⟩
 case fsl z m c =>
  subst h
  cases hx
  ·rename_i h1 h2 h3 h4; exact .inr ⟨_, _, rfl, by assumption⟩
  ·exact .inr ⟨_, _, rfl, Nat.zero_le _⟩
end
end Go.Sim
end
section
namespace Go.Sim
open Go
def Goes (P : Program) (c : Cx) (nt : Nat) (a : Act) (o : Oper) (w : World) (v : AV) (st' : St) : Prop :=
 ∀ (next : Act → World → Prop) (Q : Exit → Act → World → Prop), (∀ y w' m', RelM c nt st' a w' m' → VR (At st' w' m') v y → next (a.put o.dst y) w') → o.upon P a next Q ((execOp a.eval o).run P w)
section
variable {P : Program} {c : Cx} {nt : Nat} {st : St} {a : Act} {w : World} {m : Mp} {o : Oper} {v : AV} {st' : St}
theorem za7 {y : Value} {w' : World} {m' : Mp} (hr : (execOp a.eval o).run P w = .ok (.value y) w') (h : RelM c nt st' a w' m') (hv : VR (At st' w' m') v y) : Goes P c nt a o w v st' :=
 fun next Q hn => by rw [hr]; exact hn _ _ _ h hv
theorem zo9 {w' : World} {m' : Mp} (hr : (execOp a.eval o).run P w = .ok .skip w') (h : RelM c nt st' a w' m') : Goes P c nt a o w (.tup []) st' :=
 fun next Q hn => by rw [hr]; exact hn _ _ _ h (.tup (vs := []) (.nil _))
theorem zc7 (h : RelM c nt st a w m) (one : Bool) : ∀ (l : List Operand), one = false → VRs (At st w m) one (l.map (operand st)) (l.map a.eval)
 | [], _ => .nil _
 | x :: l, e => .cons (fun e' => by rw [e] at e'; cases e') (za6 h x) (zc7 h one l e)
theorem parts_ok (h : RelM c nt st a w m) (ps : Array (Nat × Operand)) : PQs (At st w m) (parts st ps) (ps.map fun (i, x) => (i, a.eval x)).toList := by
 simp only [parts, Array.toList_map]
 induction ps.toList with
 | nil => exact .nil
 | cons p l ih => exact .cons (za6 h p.2) ih
theorem zja (h : RelM c nt st a w m) {lo hi : Option Operand} {n l hh : Int}
  (el : bnd 0 (lo.map (operand st)) = some l) (eh : bnd n (hi.map (operand st)) = some hh) :
  (∀ av, lo.map (operand st) = some av → ∃ k n, lo.map a.eval = some (.int k n) ∧ asInt? av = some n) ∧ (lo.map (operand st) = none → lo.map a.eval = none) ∧
  (∀ av, hi.map (operand st) = some av → ∃ k n, hi.map a.eval = some (.int k n) ∧ asInt? av = some n) ∧ (hi.map (operand st) = none → hi.map a.eval = none) := by
 have key : ∀ (x : Option Operand) (d : Int) (r : Int), bnd d (x.map (operand st)) = some r →
   (∀ av, x.map (operand st) = some av → ∃ k n, x.map a.eval = some (.int k n) ∧ asInt? av = some n) ∧ (x.map (operand st) = none → x.map a.eval = none) := by
  intro x d r e
  cases x with
  | none => exact ⟨by simp, by simp⟩
  | some x =>
   simp only [Option.map_some, bnd] at e
   refine ⟨fun av hav => ?_, by simp⟩
   simp only [Option.map_some, qO1] at hav
   subst hav
   obtain ⟨k, hk⟩ := zfh (za6 h x) e
   exact ⟨k, r, by simp [hk], e⟩
 exact ⟨(key lo _ l el).1, (key lo _ l el).2, (key hi _ hh eh).1, (key hi _ hh eh).2⟩
theorem ok_aSlice (h : RelM c nt st a w m) {t e : Nat} {j : TI} (hu : P.underlying t = some (.slice e)) (hj : TIOK P e j) {x : Operand} {lo hi : Option Operand} {v : AV}
  (hs : aSlice j.size (operand st x) (lo.map (operand st)) (hi.map (operand st)) = some v) :
  ∃ y, (Instr.sliceAt t (a.eval x) (lo.map a.eval) (hi.map a.eval) none).run P w = .ok y w ∧ VR (At st w m) v y := by
 unfold aSlice at hs
 have hx := za6 h x
 cases hn : slLen (operand st x) with
 | none => simp [hn] at hs
 | some n =>
  simp only [hn, qO3, qO2] at hs
  cases eh : bnd n (hi.map (operand st)) with
  | none => rw [eh] at hs; simp at hs
  | some hh =>
   rw [eh] at hs
   simp only [qO2] at hs
   cases el : bnd 0 (lo.map (operand st)) with
   | none => rw [el] at hs; simp at hs
   | some l =>
    rw [el] at hs
    simp only [qO2] at hs
    split at hs
    ·rename_i hc
     obtain ⟨h0, h1, h2⟩ := hc
     rcases zlz hx hn with ⟨b, e1, _, _⟩ | ⟨pa, cap, e1, hcap⟩
     ·rw [e1] at hs; simp [cutA] at hs
     ·rw [e1] at hx ⊢
      obtain ⟨b1, b2, b3, b4⟩ := zja h el eh
      have hb := zjl (P := P) (w := w) true n cap hcap b1 b2 b3 b4 el eh h0 h1 h2
      exact ⟨_, zms hu hj hb, ok_cut hx hcap (by omega) (by omega) hs⟩
    ·cases hs
theorem znf (h : RelM c nt st a w m) {t n e : Nat} {j : TI} (hu : P.underlying t = some (.array n e)) (hj : TIOK P e j) {x : Operand} {lo hi : Option Operand} {v : AV} {k : Nat} {σ : Nat × Nat} {off : Nat}
  (hx0 : operand st x = .ref k σ off) {cells : List AV} (hb : blkOf st k σ = some cells) (hle : off + n * j.size ≤ cells.length)
  (hs : aSlice j.size (.msl k σ j.size off n) (lo.map (operand st)) (hi.map (operand st)) = some v) :
  ∃ y, (Instr.sliceAt t (a.eval x) (lo.map a.eval) (hi.map a.eval) none).run P w = .ok y w ∧ VR (At st w m) v y := by
 unfold aSlice at hs
 have hx := za6 h x
 rw [hx0] at hx
 obtain ⟨blk, h1, h2, rfl⟩ := zap hb
 have hx' := hx.ref_inv h1 h2
 rw [hx'] at hx
 simp only [slLen, qO3, qO2] at hs
 cases eh : bnd n (hi.map (operand st)) with
 | none => rw [eh] at hs; simp at hs
 | some hh =>
  rw [eh] at hs
  simp only [qO2] at hs
  cases el : bnd 0 (lo.map (operand st)) with
  | none => rw [el] at hs; simp at hs
  | some l =>
   rw [el] at hs
   simp only [qO2] at hs
   split at hs
   ·rename_i hc
    obtain ⟨h0, h1', h2'⟩ := hc
    obtain ⟨b1, b2, b3, b4⟩ := zja h el eh
    have hbd := zjl (P := P) (w := w) false n n (Nat.le_refl _) b1 b2 b3 b4 el eh h0 h1' h2'
    have hms : VR (At st w m) (.msl k σ j.size off n) (.slice (some ⟨(m.base k).1, (m.base k).2 + off, none⟩) n n) := by
     cases hx with
     | ref hok hl =>
      refine .msl hok ⟨rfl, Nat.le_refl _⟩ fun blk' hb' hs' => ?_
      have : blk' = blk := by
       have e1 : aget k st.heap = some blk' := hb'
       rw [h1] at e1; cases e1; rfl
      subst this
      refine ⟨hle, .inl ⟨n, rfl, Nat.le_refl _, ?_⟩⟩
      rcases h.blkAt h1 with ⟨q1, q2⟩ | ⟨cs, ty', fr, r1, r2, r3, _⟩
      ·rw [q1] at hle; simp at hle; show off + n * j.size ≤ m.ext k; omega
      ·show off + n * j.size ≤ m.ext k; omega
    rw [hx']
    exact ⟨_, zm8 hu hj hbd, ok_cut hms (Nat.le_refl _) (by omega) (by omega) hs⟩
   ·cases hs
theorem ok_slice3 (h : RelM c nt st a w m) {t e : Nat} {j : TI} (hu : P.underlying t = some (.slice e)) (hj : TIOK P e j) {x mx : Operand} {lo hi : Option Operand} {n : Nat} {l hh k : Int}
  (hn : slLen (operand st x) = some n) (hk : asInt? (operand st mx) = some k) (eh : bnd (-1) (hi.map (operand st)) = some hh) (el : bnd 0 (lo.map (operand st)) = some l)
  (hc : 0 ≤ l ∧ l = hh ∧ hh = k ∧ k ≤ n ∧ (operand st x).isStr = false) :
  ∃ y, (Instr.sliceAt t (a.eval x) (lo.map a.eval) (hi.map a.eval) ((some mx).map a.eval)).run P w = .ok y w ∧ VR (At st w m) .nsl y := by
 obtain ⟨h0, rfl, rfl, h1, h2⟩ := hc
 have hx := za6 h x
 obtain ⟨km, hm⟩ := zfh (za6 h mx) hk
 rcases zlz hx hn with ⟨b, e1, _, _⟩ | ⟨pa, cap, e1, hcap⟩
 ·rw [e1] at h2; cases h2
 ·refine ⟨.slice pa 0 0, ?_, .nsl⟩
  have bb : ∀ (kk : IntKind) (y : Nat) (code : BoundsCode), l ≤ y → (Instr.sliceBound (.int kk l) y code).run P w = .ok l.toNat w := fun kk y code hy => zim kk l y code h0 hy
  have hlt : (l.toNat : Int) = l := Int.toNat_of_nonneg h0
  rw [e1, Option.map_some, hm]
  cases hi with
  | none => simp only [Option.map_none, bnd, qO1] at eh; omega
  | some hi =>
   simp only [Option.map_some, bnd] at eh
   obtain ⟨kh, hkh⟩ := zfh (za6 h hi) eh
   rw [Option.map_some, hkh]
   have e2 := bb km cap .slice3Acap (by omega)
   have e3 := bb kh l.toNat .slice3B (by omega)
   cases lo with
   | none =>
    simp only [Option.map_none, bnd, qO1] at el
    have hl0 : l = 0 := el.symm
    subst hl0
    simp [Instr.sliceAt, Instr.slice, Instr.sliceBounds, run_underlying hu, hj.run_size, e2] at e3 ⊢
    simp [e3]
   | some lo =>
    simp only [Option.map_some, bnd] at el
    obtain ⟨kl, hkl⟩ := zfh (za6 h lo) el
    rw [Option.map_some, hkl]
    have e4 := bb kl l.toNat .slice3C (by omega)
    simp [Instr.sliceAt, Instr.slice, Instr.sliceBounds, run_underlying hu, hj.run_size, e2, e3, e4]
theorem TIOK.zeroVals {t : Nat} {i : TI} (hi : TIOK P t i) (s : S) : ∃ z, (∀ w, (zeroValue t).run P w = .ok z w) ∧ VRs s true i.zero z.cells.toList ∧ z.cells.size = i.zero.length := by
 obtain ⟨z, hz, hr⟩ := hi.run_zero
 have hv := zcb s _ _ hz
 exact ⟨z, hr, hv, by have := hv.length; simp at this; omega⟩
theorem VRs.repl {s : S} {cs : List AV} {vs : List Value} (h : VRs s true cs vs) (n : Nat) : VRs s true (repl n cs) (List.replicate n vs).flatten := by
 unfold Sim.repl
 induction n with
 | zero => exact .nil _
 | succ n ih => simp only [List.replicate_succ, List.flatten_cons]; exact h.append ih
theorem zop : ∀ (fs : List Field), (∀ f ∈ fs, (P.info? f.type).isSome = true) →
  ∃ places, fs.mapM (fun f => (P.info? f.type).map fun i => (f.offset, i.size)) = some places ∧ ∀ (k : Nat) (f : Field) (i : TypeInfo), fs[k]? = some f → P.info? f.type = some i → places[k]? = some (f.offset, i.size)
 | [], _ => ⟨[], rfl, fun k f i h => by simp at h⟩
 | f :: fs, h => by
  obtain ⟨places, h1, h2⟩ := zop fs (fun g hg => h g (by simp [hg]))
  obtain ⟨i, hi⟩ := Option.isSome_iff_exists.1 (h f (by simp))
  refine ⟨(f.offset, i.size) :: places, by simp [List.mapM_cons, hi, h1], fun k g j hk hj => ?_⟩
  cases k with
  | zero => simp at hk; subst hk; rw [hi] at hj; cases hj; rfl
  | succ k => simp at hk; simpa using h2 k g j hk hj
theorem ok_build (h : RelM c nt st a w m) {t : Nat} {i : TI} (hi : TIOK P t i) {L : Nat → Option TI} (hL : LOK P L) (ps : Array (Nat × Operand)) {cells : List AV}
  (hf : (∃ fs, i.desc = .strct fs ∧ fillA (fun k => do let (o, ty) ← fs[k]?; let j ← L ty; some (o, j.size)) i.zero (parts st ps) = some cells) ∨
   (∃ n e j, i.desc = .arr n e ∧ L e = some j ∧ fillA (fun k => some (k * j.size, j.size)) i.zero (parts st ps) = some cells)) :
  ∃ vs, (Instr.build t (ps.map fun (i, x) => (i, a.eval x))).run P w = .ok (.agg vs) w ∧ VR (At st w m) (.agg cells) (.agg vs) := by
 have hp := parts_ok h ps
 obtain ⟨info, d, z, q1, q2, q3, q4, q5, q6, q7, q8⟩ := hi
 have hzv := zcb (At st w m) _ _ q7
 rcases hf with ⟨fs, hd, hf⟩ | ⟨n, e, j, hd, hj, hf⟩
 ·rw [hd] at q3
  cases d <;> simp only [TDOK] at q3
  rename_i fields
  obtain ⟨q3, q8⟩ := q3
  obtain ⟨places, p1, p2⟩ := zop (P := P) fields.toList (List.all_eq_true.1 q8)
  obtain ⟨vs, g1, g2⟩ := zlj (place := (places.toArray[·]?)) _ _ _ _ _ hp (fun p _ r hr => by
   cases hk : fs[p.1]? with
   | none => simp [hk] at hr
   | some q =>
    obtain ⟨o', ty⟩ := q
    cases hj : L ty with
    | none => simp [hk, hj] at hr
    | some jj =>
     simp only [hk, hj, qO3, qO2, qO1] at hr
     subst hr
     rw [← q3, List.getElem?_map] at hk
     cases hg : fields.toList[p.1]? with
     | none => simp [hg] at hk
     | some fd =>
      simp only [hg, Option.map_some, qO1, qO4] at hk
      obtain ⟨rfl, rfl⟩ := hk
      obtain ⟨ij, _, _, e1, _, _, e2, _⟩ := hL _ _ hj
      simpa [e2] using p2 p.1 fd ij hg e1) hzv hf
  refine ⟨vs.toArray, run_build w t _ _ ?_, .agg g2⟩
  simpa [Program.built, q1, q2, q6, p1] using g1
 ·rw [hd] at q3
  cases d <;> simp only [TDOK] at q3
  obtain ⟨rfl, rfl⟩ := q3
  obtain ⟨ij, _, _, e1, _, _, e2, _⟩ := hL _ _ hj
  obtain ⟨vs, g1, g2⟩ := zlj (place := fun k => some (k * j.size, j.size)) _ _ _ _ _ hp (fun p _ r hr => hr) hzv hf
  refine ⟨vs.toArray, run_build w t _ _ ?_, .agg g2⟩
  simpa [Program.built, q1, q2, q6, e1, e2] using g1
theorem zl8 (h : RelM c nt st a w m) {t e n : Nat} {j : TI} (hu : P.underlying t = some (.slice e)) (hj : TIOK P e j) {ps : List (Nat × AV)} {qs : Array (Nat × Value)} (hp : PQs (At st w m) ps qs.toList) {cells : List AV} (d : Nat)
  (h1 : n * j.size ≤ 16777216) (h2 : j.zero.length = j.size) (h3 : 0 < j.size) (hf : fillA (fun k => some (k * j.size, j.size)) (repl n j.zero) ps = some cells) (hk : isMapKey d = false := by first | assumption | (apply zb1; assumption)) :
  ∃ y w' m', (Instr.buildSlice t n qs).run P w = .ok y w' ∧ RelM c nt (newBlk st d cells).2 a w' m' ∧
   VR (At (newBlk st d cells).2 w' m') (.msl d (newBlk st d cells).1 j.size 0 n) y := by
 obtain ⟨z, hz, hzv, hzs⟩ := hj.zeroVals (At st w m)
 obtain ⟨vs, g1, g2⟩ := zlj (place := fun k => some (k * j.size, j.size)) _ _ _ _ _ hp (fun p _ r hr => hr) (hzv.repl n) hf
 have hrow : ((Array.range (n * j.size)).map fun i => z.cells[i % z.cells.size]!) = (List.replicate n z.cells.toList).flatten.toArray := by
  apply Array.ext'
  have := zhf z.cells n
  rw [hzs, h2] at this
  rw [hzs, h2]
  simpa using this
 have hlen : cells.length = n * j.size := by
  have key : ∀ (place : Nat → Option (Nat × Nat)) (ps : List (Nat × AV)) (cs cs' : List AV), fillA place cs ps = some cs' → cs'.length = cs.length := by
   intro place ps
   induction ps with
   | nil => intro cs cs' hh; simp only [fillA, qO1] at hh; rw [hh]
   | cons p ps ih =>
    intro cs cs' hh
    obtain ⟨i, v⟩ := p
    unfold fillA at hh
    split at hh
    ·cases hh
    ·split at hh
     ·rename_i hc
      rw [ih _ _ hh]; simp [setR]; omega
     ·cases hh
  rw [key _ _ _ _ hf]; simp [repl, h2]
 have hvl := g2.length
 have hn := h.new d g2 vs.toArray (n * j.size) e (fun k v hk => by simpa using hk) (by simp; omega) (by omega)
 refine ⟨.slice (some ⟨w.heap.size, 0, none⟩) n n, _, _, ?_, hn.1, VR.new_msl h.next1 d _ _ j.size n n hlen (Nat.le_refl _)⟩
 have hbig : ¬ (16777216 < n * j.size) := by omega
 by_cases h0 : n * j.size = 0
 ·have hn0 : n = 0 := by
   rcases Nat.mul_eq_zero.1 h0 with x | x
   ·exact x
   ·omega
  subst hn0
  simp only [Instr.buildSlice, Sem.run_bind, run_underlying hu, Result.andThen_ok, hj.run_size]
  simp only [List.replicate_zero, List.flatten_nil] at g1
  simp [g1, newRow, show (Array.range 0 : Array Nat) = #[] from rfl]
 ·simp only [Instr.buildSlice, Sem.run_bind, run_underlying hu, Result.andThen_ok, hj.run_size]
  rw [if_neg (by simpa using hbig)]
  simp only [h0, if_false, Sem.run_bind, hz, Result.andThen_ok, Sem.run_pure, hrow]
  simp [g1, newRow]
theorem znc (h : RelM c nt st a w m) {t e n k : Nat} {j : TI} (hu : P.underlying t = some (.slice e)) (hj : TIOK P e j) (d : Nat) (kl kc : IntKind) (hnk : n ≤ k)
  (h1 : k * j.size ≤ 16777216) (h2 : j.zero.length = j.size) (h3 : 0 < j.size) (h4 : k * j.bytes ≤ 140737488355328) (h5 : k ≤ 140737488355328) (hk : isMapKey d = false := by first | assumption | (apply zb1; assumption)) :
  ∃ y w' m', (Instr.makeSlice t (.int kl (n : Int)) (.int kc (k : Int))).run P w = .ok y w' ∧ RelM c nt (newBlk st d (repl n j.zero)).2 a w' m' ∧
   VR (At (newBlk st d (repl n j.zero)).2 w' m') (.msl d (newBlk st d (repl n j.zero)).1 j.size 0 n) y := by
 obtain ⟨info, de, z, hinfo, _, _, hsz, hby, hzero, hzc, hzd⟩ := hj
 have hzv := zcb (At st w m) _ _ hzc
 have hzl : z.cells.size = j.size := by have := hzv.length; simp at this; omega
 have hb' : (info.bytes : Int) * (k : Int) ≤ 281474976710656 := by
  have : ((k * j.bytes : Nat) : Int) ≤ 281474976710656 := by omega
  rw [hby, Int.mul_comm]
  rwa [Int.natCast_mul] at this
 have hr := run_makeSlice (P := P) w t e info z hu hinfo hzero kl kc n k (by omega) (by omega) (by rw [hsz]; simpa using h1) hb' (by omega)
 simp only [Int.toNat_natCast] at hr
 have hrow : (madeCells z.cells (k * info.size)).toList = (List.replicate k z.cells.toList).flatten := by
  have := zhf z.cells k
  rw [hzl] at this
  rw [hsz, ← this]
  simp [madeCells, hzl]
 have hle : n * j.size ≤ k * j.size := Nat.mul_le_mul_right _ hnk
 have hn := h.new d (hzv.repl n) (madeCells z.cells (k * info.size)) (k * j.size) e (fun i v hk => by
   rw [← Array.getElem?_toList, hrow]
   obtain ⟨r, rfl⟩ : ∃ r, k = n + r := ⟨k - n, by omega⟩
   rw [← List.replicate_append_replicate, List.flatten_append, List.getElem?_append_left (List.getElem?_eq_some_iff.1 hk).1]
   exact hk) (by rw [size_madeCells, hsz]; omega) (by
   have := (hzv.repl n).length
   have h6 : (repl n j.zero).length = n * j.size := by simp [Sim.repl, h2]
   omega)
 exact ⟨_, _, _, hr, hn.1, VR.new_msl h.next1 d _ _ j.size n k (by simp [Sim.repl, h2]) hnk⟩
theorem u8s_ok {s : S} {one : Bool} : ∀ {cells : List AV} {vs : List Value} {xs : List Int}, VRs s one cells vs → u8s cells = some xs → vs = xs.map (.int .u8)
 | [], _, xs, hv, h => by
  cases hv
  simp only [u8s, qO1] at h
  subst h; rfl
 | c :: cells, _, xs, hv, h => by
  cases hv with
  | cons h1 hc hs =>
   unfold u8s at h
   split at h
   ·rename_i he; cases he
   ·rename_i n l he
    cases he
    cases hl : u8s cells with
    | none => simp [hl] at h
    | some ys =>
     simp only [hl, Option.map_some, qO1] at h
     subst h
     rw [hc.int_inv, u8s_ok hs hl]; rfl
   ·cases h
theorem zqc (h : RelM c nt st a w m) {t t' e : Nat} (hs : P.underlying t = some (.slice e)) (he : P.underlying e = some (.int .u8)) (hd : P.underlying t' = some .string) {v : AV} {x : Value} (hx : VR (At st w m) v x)
  {n : Nat} {cells : List AV} {xs : List Int} (hc : slCells st 1 v = some (n, cells)) (hu : u8s cells = some xs) : (convert t t' x).run P w = .ok (.string (strOfNums xs)) w := by
 obtain ⟨vs, g1, g2, g3⟩ := zhm h hx hc
 have hvs := u8s_ok g1 hu
 have hl := g1.length
 subst hvs
 simp only [List.length_map] at hl
 rcases g3 with ⟨ad, cap, rfl, ha, hcell⟩ | ⟨ad, cap, rfl, rfl⟩
 ·have := run_convert_bytes_arg (P := P) w t e hs he ad.block ad.off n cap xs (by omega) (fun i hi => by
   have hj : (xs.map (Value.int .u8))[i]? = some (.int .u8 (xs.getD i 0)) := by
    rw [List.getElem?_map, List.getElem?_eq_getElem (by omega)]; simp [List.getD_eq_getElem?_getD, List.getElem?_eq_getElem (show i < xs.length by omega)]
   have := hcell i _ hj
   rwa [zd7 ha] at this) t' hd
  rwa [addr_eta ha]
 ·have hxs : xs = [] := List.eq_nil_of_length_eq_zero (by omega)
  subst hxs
  cases ad with
  | none =>
   rw [run_convert_bytes_nil (P := P) w t e hs he 0 cap t' hd]
   rfl
  | some ad =>
   rw [run_convert_bytes_string w t t' e (some ad) 0 cap hs he hd, run_bytesToString w ad 0 cap [] (by simp [loadCells, loadCellsFrom])]
   rfl
theorem zma {t e : Nat} (hu : P.underlying t = some (.slice e)) (ty : Nat) (ts : Array Nat) (ht : ts[0]? = some t) (pa : Option Addr) (n cap : Nat) :
  (Builtin.len_ ts ty #[.slice pa n cap]).run P w = .ok (.int .i64 n) w := by
 simp [Builtin.len_, ht, run_underlying hu, goInt]
theorem zpw {t : Nat} (hu : P.underlying t = some .string) (ty : Nat) (ts : Array Nat) (ht : ts[0]? = some t) (b : ByteArray) :
  (Builtin.len_ ts ty #[.string b]).run P w = .ok (.int .i64 b.size) w := by
 simp [Builtin.len_, ht, run_underlying hu, goInt]
theorem zq0 {t n e : Nat} (hu : P.underlying t = some (.array n e)) (ty : Nat) (ts : Array Nat) (ht : ts[0]? = some t) (x : Value) :
  (Builtin.len_ ts ty #[x]).run P w = .ok (.int .i64 n) w := by
 simp [Builtin.len_, ht, run_underlying hu, goInt]
theorem VRs.one_inv {s : S} {one : Bool} {x : AV} {vs : List Value} (h : VRs s one [x] vs) : ∃ v, vs = [v] ∧ VR s x v := by
 cases h with | cons h1 hv hs => cases hs; exact ⟨_, rfl, hv⟩
theorem VRs.two_inv {s : S} {one : Bool} {x y : AV} {vs : List Value} (h : VRs s one [x, y] vs) : ∃ v u, vs = [v, u] ∧ VR s x v ∧ VR s y u := by
 cases h with | cons h1 hv hs => obtain ⟨u, rfl, hu⟩ := hs.one_inv; exact ⟨_, _, rfl, hv, hu⟩
theorem run_copy {t e : Nat} {j : TI} (hu : P.underlying t = some (.slice e)) (hj : TIOK P e j) (ty : Nat) (ts : Array Nat) (ht : ts[0]? = some t) (dpa spa : Option Addr) (dn dcap sn scap : Nat) (vs : List Value)
  (hc : (Builtin.firstCells j.size (min sn dn) (.slice spa sn scap)).run P w = .ok vs.toArray w) {w' : World}
  (hs : (match dpa with | some ad => storeCells ad vs | none => pure () : Sem Unit).run P w = .ok () w') :
  (Builtin.copy_ ts ty #[.slice dpa dn dcap, .slice spa sn scap]).run P w = .ok (.int .i64 (min sn dn : Nat)) w' := by
 cases dpa with
 | none =>
  simp at hs
  subst hs
  simp [Builtin.copy_, ht, run_underlying hu, Builtin.lenOf, hj.run_size, hc, goInt, show Nat.min sn dn = min sn dn from rfl]
 | some ad =>
  simp only at hs
  simp [Builtin.copy_, ht, run_underlying hu, Builtin.lenOf, hj.run_size, hc, goInt, hs, show Nat.min sn dn = min sn dn from rfl]
end
end Go.Sim
end
