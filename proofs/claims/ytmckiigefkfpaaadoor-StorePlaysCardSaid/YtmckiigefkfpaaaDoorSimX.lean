/- The interpreter once more, what is left to do handed on: so that it is worked off by looking at its head alone. -/
import Derived.Test.YtmckiigefkfpaaaDoorSimArr
set_option linter.unusedVariables false
set_option linter.unusedSimpArgs false
namespace Go.Sim
open Go

/-! ## what one stops at -/
/-- A check: nothing goes on where it fails. -/
def chk (c : Prop) [Decidable c] (a : Ans) : Ans := if c then a else none
/-- One of two ways. -/
def brX (x : Bool) (a b : Ans) : Ans := match x with | true => a | false => b
/-- A cell out of a row. -/
def getX (l : List AV) (o : Nat) (κ : AV → Ans) : Ans := match l[o]? with | some v => κ v | none => none
/-- A byte out of a text. -/
def strX (s : ByteArray) (o : Nat) (κ : AV → Ans) : Ans := match s[o]? with | some b => κ (.int .u8 b.toNat) | none => none
/-- Cells over cells. -/
def setX (cells : List AV) (o : Nat) (vs : List AV) (κ : List AV → Ans) : Ans := κ (setR cells o vs)
/-- A part of a row. -/
def takeX (cells : List AV) (o n : Nat) (κ : List AV → Ans) : Ans := κ ((cells.drop o).take n)
/-- A row, made plain. -/
def normX (cells : List AV) (κ : List AV → Ans) : Ans := κ cells
/-- A call's answer. -/
def resX (r : Option (AV × List (Option (List AV)))) (κ : AV → List (Option (List AV)) → Ans) : Ans := match r with | some (v, l) => κ v l | none => none

def optX {α : Type} (o : Option α) (κ : α → Ans) : Ans := match o with | some v => κ v | none => none
theorem optX_eq {α : Type} (o : Option α) (κ : α → Ans) : optX o κ = o.bind κ := by cases o <;> rfl

/-! ## lists by keys -/
def agetX {α : Type} (k : Nat) : List (Nat × α) → (α → Ans) → Ans → Ans
  | [], _, z => z
  | (j, v) :: l, κ, z => match Nat.beq j k with | true => κ v | false => agetX k l κ z
def aputX {α : Type} (k : Nat) (v : α) : List (Nat × α) → (List (Nat × α) → Ans) → Ans
  | [], κ => κ [(k, v)]
  | (j, u) :: l, κ => match Nat.beq j k with | true => κ ((k, v) :: l) | false => aputX k v l fun r => κ ((j, u) :: r)
def adelX {α : Type} (k : Nat) : List (Nat × α) → (List (Nat × α) → Ans) → Ans
  | [], κ => κ []
  | (j, u) :: l, κ => match Nat.beq j k with | true => adelX k l κ | false => adelX k l fun r => κ ((j, u) :: r)

theorem beq_tf (j k : Nat) : (Nat.beq j k = true ∧ j = k) ∨ (Nat.beq j k = false ∧ ¬ j = k) := by
  cases h : Nat.beq j k
  · exact .inr ⟨rfl, Nat.ne_of_beq_eq_false h⟩
  · exact .inl ⟨rfl, Nat.eq_of_beq_eq_true h⟩

theorem agetX_eq {α : Type} (k : Nat) (l : List (Nat × α)) (κ : α → Ans) (z : Ans) : agetX k l κ z = match aget k l with | some v => κ v | none => z := by
  induction l with
  | nil => rfl
  | cons p l ih =>
    obtain ⟨j, v⟩ := p
    rcases beq_tf j k with ⟨h, e⟩ | ⟨h, e⟩
    · simp only [agetX, h, aget, if_pos e]
    · simp only [agetX, h, aget, if_neg e, ih]
theorem aputX_eq {α : Type} (k : Nat) (v : α) (l : List (Nat × α)) (κ : List (Nat × α) → Ans) : aputX k v l κ = κ (aput k v l) := by
  induction l generalizing κ with
  | nil => rfl
  | cons p l ih =>
    obtain ⟨j, u⟩ := p
    rcases beq_tf j k with ⟨h, e⟩ | ⟨h, e⟩
    · simp only [aputX, h, aput, if_pos e]
    · simp only [aputX, h, aput, if_neg e, ih]
theorem adelX_eq {α : Type} (k : Nat) (l : List (Nat × α)) (κ : List (Nat × α) → Ans) : adelX k l κ = κ (adel k l) := by
  induction l generalizing κ with
  | nil => rfl
  | cons p l ih =>
    obtain ⟨j, u⟩ := p
    rcases beq_tf j k with ⟨h, e⟩ | ⟨h, e⟩
    · simp only [adelX, h, adel, if_pos e, ih]
    · simp only [adelX, h, adel, if_neg e, ih]

/-! ## operands, blocks -/
def cellsOf : List Value → (List AV → Ans) → Ans
  | [], κ => κ []
  | v :: l, κ => match ofScalar v with
    | .junk => none
    | x => cellsOf l fun r => κ (x :: r)
def opX (st : St) (x : Operand) (κ : AV → Ans) : Ans := match st, x with
  | ⟨env, _, _, _⟩, .tmp t => agetX t env κ (κ .junk)
  | _, .const v => match v with
    | .bool b => κ (.bool b)
    | .int k n => κ (.int k n)
    | .string s => κ (.str s)
    | v => κ (ofConst v)
  | _, .func f => κ (.fn f [])
  | _, .global g => κ (.gref g)
theorem opX_eq (st : St) (x : Operand) (κ : AV → Ans) : opX st x κ = κ (operand st x) := by
  cases st
  cases x <;> simp only [opX, operand, agetX_eq]
  · rename_i env _ _ _ t
    cases aget t env <;> rfl
  · rename_i v
    cases v <;> rfl
def opsX (st : St) : List Operand → (List AV → Ans) → Ans
  | [], κ => κ []
  | x :: l, κ => opX st x fun v => opsX st l fun r => κ (v :: r)
theorem opsX_eq (st : St) (l : List Operand) (κ : List AV → Ans) : opsX st l κ = κ (l.map (operand st)) := by
  induction l generalizing κ with
  | nil => rfl
  | cons x l ih => simp only [opsX, opX_eq, ih, List.map_cons]
def partsX (st : St) : List (Nat × Operand) → (List (Nat × AV) → Ans) → Ans
  | [], κ => κ []
  | (i, x) :: l, κ => opX st x fun v => partsX st l fun r => κ ((i, v) :: r)
theorem partsX_eq (st : St) (l : List (Nat × Operand)) (κ : List (Nat × AV) → Ans) : partsX st l κ = κ (l.map fun p => (p.1, operand st p.2)) := by
  induction l generalizing κ with
  | nil => rfl
  | cons x l ih => obtain ⟨i, x⟩ := x; simp only [partsX, opX_eq, ih, List.map_cons]
def putX (st : St) (d : Option Nat) (v : AV) (κ : St → Ans) : Ans := match st, d with
  | ⟨env, heap, next, tag⟩, some d => aputX d v env fun e => κ ⟨e, heap, next, tag⟩
  | st, none => κ st
theorem putX_eq (st : St) (d : Option Nat) (v : AV) (κ : St → Ans) : putX st d v κ = κ (putD st d v) := by
  cases st; cases d <;> simp only [putX, putD, aputX_eq]
def delX : List Nat → List (Nat × AV) → (List (Nat × AV) → Ans) → Ans
  | [], e, κ => κ e
  | d :: l, e, κ => adelX d e fun e => delX l e κ
def tidyX (cross : List Nat) : List Oper → St → (St → Ans) → Ans
  | [], st, κ => κ st
  | ⟨d, _, _, _, _, _⟩ :: l, st, κ => match d with
    | some d => match cross.contains d with
      | true => tidyX cross l st κ
      | false => match st with | ⟨env, heap, next, tag⟩ => adelX d env fun e => tidyX cross l ⟨e, heap, next, tag⟩ κ
    | none => tidyX cross l st κ
theorem tidyX_eq (cross : List Nat) (l : List Oper) (st : St) (κ : St → Ans) : tidyX cross l st κ = κ (tidy cross l st) := by
  induction l generalizing st with
  | nil => rfl
  | cons o l ih =>
    obtain ⟨d, _, _, _, _, _⟩ := o
    cases st
    cases d with
    | none => simp only [tidyX, tidy, ih]
    | some d =>
      simp only [tidyX, tidy]
      cases h : cross.contains d
      · simp only [adelX_eq, ih, Bool.false_eq_true, if_false]
      · simp only [ih, if_true]

def newX (st : St) (site : Nat) (cells : List AV) (κ : Nat × Nat → St → Ans) : Ans := match st with
  | ⟨env, heap, next, tag⟩ => aputX site ⟨(tag, next), cells⟩ heap fun h => κ (tag, next) ⟨env, h, next + 1, tag⟩
theorem newX_eq (st : St) (site : Nat) (cells : List AV) (κ : Nat × Nat → St → Ans) : newX st site cells κ = κ (newBlk st site cells).1 (newBlk st site cells).2 := by
  cases st; simp only [newX, newBlk, aputX_eq]
def blkX (st : St) (s : Nat) (g : Nat × Nat) (κ : List AV → Ans) : Ans := match st with
  | ⟨_, heap, _, _⟩ => match isMapKey s with
    | true => none
    | false => agetX s heap (fun b => match b with | ⟨σ, cells⟩ => chk (σ = g) (κ cells)) none
theorem blkX_eq (st : St) (s : Nat) (g : Nat × Nat) (κ : List AV → Ans) : blkX st s g κ = (blkOf st s g).bind κ := by
  obtain ⟨env, heap, next, tag⟩ := st
  simp only [blkX, blkOf, agetX_eq, chk]
  cases isMapKey s with
  | true => rfl
  | false =>
  simp only [Bool.false_eq_true, if_false]
  cases aget s heap with
  | none => rfl
  | some b => simp only; split <;> rfl
def putCellsX (st : St) (site : Nat) (cells : List AV) (κ : St → Ans) : Ans := match st with
  | ⟨env, heap, next, tag⟩ => agetX site heap (fun b => match b with | ⟨σ, _⟩ => aputX site ⟨σ, cells⟩ heap fun h => κ ⟨env, h, next, tag⟩) (κ ⟨env, heap, next, tag⟩)
theorem putCellsX_eq (st : St) (site : Nat) (cells : List AV) (κ : St → Ans) : putCellsX st site cells κ = κ (putCells st site cells) := by
  cases st
  simp only [putCellsX, putCells, agetX_eq, aputX_eq]
  split
  · rename_i h; rw [h]
  · rename_i h; rw [h]
def cellsX (v : AV) (κ : List AV → Ans) : Ans := match v with
  | .agg cs => κ cs
  | .fsl z n cs => κ [.isl z n cs]
  | v => κ [v]
theorem cellsX_eq (v : AV) (κ : List AV → Ans) : cellsX v κ = κ v.cells := by cases v <;> rfl
def rdX (i : TI) (cells : List AV) (o : Nat) (κ : AV → Ans) : Ans := match i.isAgg with
  | true => chk (o + i.size ≤ cells.length) (takeX cells o i.size fun c => κ (.agg c))
  | false => getX cells o κ
theorem rdX_eq (i : TI) (cells : List AV) (o : Nat) (κ : AV → Ans) : rdX i cells o κ = (rdCells i cells o).bind κ := by
  simp only [rdX, rdCells, chk, takeX, getX]
  cases i.isAgg
  · simp only [Bool.false_eq_true, if_false]; cases cells[o]? <;> rfl
  · simp only [if_true]; split <;> rfl
def ldX (i : TI) (st : St) (p : AV) (κ : AV → Ans) : Ans := match p with
  | .ref s g o => blkX st s g fun cells => rdX i cells o κ
  | .ipt cells => rdX i cells 0 κ
  | _ => none
def gldX (rd : List (Nat × List Nat)) (i : TI) (st : St) (p : AV) (κ : AV → Ans) : Ans := match p with
  | .gref g => match (aget (1000000000 + g) rd).isSome && i.isErr with
    | true => κ (.err g)
    | false => none
  | p => ldX i st p κ
theorem ldX_eq (i : TI) (st : St) (p : AV) (κ : AV → Ans) : ldX i st p κ = (aLoad i st p).bind κ := by
  cases p <;> simp only [ldX, aLoad, blkX_eq, rdX_eq] <;> try rfl
  rename_i s g o
  cases blkOf st s g <;> rfl
theorem gldX_eq (rd : List (Nat × List Nat)) (i : TI) (st : St) (p : AV) (κ : AV → Ans) : gldX rd i st p κ = (gLoad rd i st p).bind κ := by
  cases p
  case gref g =>
    simp only [gldX, gLoad]
    cases (aget (1000000000 + g) rd).isSome && i.isErr <;> rfl
  all_goals (simp only [gldX, gLoad]; exact ldX_eq i st _ κ)
def stX (i : TI) (st : St) (addr v : AV) (κ : St → Ans) : Ans := match addr with
  | .ref s g o => blkX st s g fun cells => match v.solid with
    | true => cellsX v fun vs => chk (vs.length = i.size) (chk (o + i.size ≤ cells.length) (setX cells o vs fun c => putCellsX st s c κ))
    | false => none
  | _ => none
theorem stX_eq (i : TI) (st : St) (addr v : AV) (κ : St → Ans) : stX i st addr v κ = (aStore i st addr v).bind κ := by
  cases addr <;> simp only [stX, aStore] <;> try rfl
  rename_i s g o
  rw [blkX_eq]
  cases blkOf st s g with
  | none => rfl
  | some cells =>
    simp only [Option.bind_some]
    cases hs : v.solid
    · simp
    · simp only [cellsX_eq, chk, setX, putCellsX_eq]
      by_cases h1 : v.cells.length = i.size <;> by_cases h2 : o + i.size ≤ cells.length <;> simp [h1, h2]
def fillX (place : Nat → Option (Nat × Nat)) (cells : List AV) : List (Nat × AV) → (List AV → Ans) → Ans
  | [], κ => κ cells
  | (i, v) :: rest, κ => match place i with
    | none => none
    | some (off, size) => match v.solid with
      | true => cellsX v fun vs => chk (vs.length = size) (chk (off + size ≤ cells.length) (setX cells off vs fun c => fillX place c rest κ))
      | false => none
theorem fillX_eq (place : Nat → Option (Nat × Nat)) (cells : List AV) (ps : List (Nat × AV)) (κ : List AV → Ans) : fillX place cells ps κ = (fillA place cells ps).bind κ := by
  induction ps generalizing cells with
  | nil => rfl
  | cons p ps ih =>
    obtain ⟨i, v⟩ := p
    simp only [fillX, fillA]
    cases place i with
    | none => rfl
    | some q =>
      obtain ⟨off, size⟩ := q
      simp only
      cases hs : v.solid
      · simp
      · simp only [cellsX_eq, chk, setX, ih]
        by_cases h1 : v.cells.length = size <;> by_cases h2 : off + size ≤ cells.length <;> simp [h1, h2]

/-! ## arithmetic -/
def intX (op : BinOp) (k : IntKind) (x y : Int) (κ : AV → Ans) : Ans := match op with
  | .add => κ (.int k (k.wrap (x + y)))
  | .sub => κ (.int k (k.wrap (x - y)))
  | .mul => κ (.int k (k.wrap (x * y)))
  | .quo => chk (y ≠ 0) (κ (.int k (k.wrap (x.tdiv y))))
  | .rem => chk (y ≠ 0) (κ (.int k (x.tmod y)))
  | .and => κ (.int k (bAnd k x y))
  | .or => κ (.int k (bOr k x y))
  | .xor => κ (.int k (bXor k x y))
  | .andNot => κ (.int k (bAndNot k x y))
  | .eql => κ (.bool (decide (x = y)))
  | .neq => κ (.bool (decide (x ≠ y)))
  | .lss => κ (.bool (decide (x < y)))
  | .leq => κ (.bool (decide (x ≤ y)))
  | .gtr => κ (.bool (decide (y < x)))
  | .geq => κ (.bool (decide (y ≤ x)))
  | .shl => none
  | .shr => none
theorem intX_eq (op : BinOp) (k : IntKind) (x y : Int) (κ : AV → Ans) : intX op k x y κ = (aInt op k x y).bind κ := by
  cases op <;> simp only [intX, aInt, chk, Option.bind_some, Option.bind_none] <;> try rfl
  · by_cases h : y = 0 <;> simp [h]
  · by_cases h : y = 0 <;> simp [h]
  all_goals first
    | rw [int_bne]; simp
    | rw [int_beq]
def binX (L : Nat → Option TI) (t : Nat) (op : BinOp) (c : Bool) (x y : AV) (κ : AV → Ans) : Ans := match x, y with
  | .int k a, .int k' b => match op with
    | .shl => chk (0 ≤ b) (κ (.int k (bShl k a b)))
    | .shr => chk (0 ≤ b) (κ (.int k (bShr k a b)))
    | op => chk (k = k') (intX op k a b κ)
  | x, y => optX (aBinN L t op c x y) κ
theorem binX_eq (L : Nat → Option TI) (t : Nat) (op : BinOp) (c : Bool) (x y : AV) (κ : AV → Ans) : binX L t op c x y κ = (aBinN L t op c x y).bind κ := by
  unfold binX
  split
  · rename_i k a k' b
    have hs : ∀ (p : AV), chk (0 ≤ b) (κ p) = (if b < 0 then none else some p).bind κ := fun p => by
      by_cases h : b < 0
      · rw [if_pos h, chk, if_neg (by omega)]; rfl
      · rw [if_neg h, chk, if_pos (by omega)]; rfl
    have hi : ∀ op, chk (k = k') (intX op k a b κ) = (if k = k' then aInt op k a b else none).bind κ := fun op => by
      rw [chk, intX_eq]; split <;> rfl
    cases op <;> simp only [aBinN, nilCmp, aBin, aShift, hs, hi] <;> rfl
  · exact optX_eq _ _
def unX (op : UnOp) (x : AV) (κ : AV → Ans) : Ans := match op, x with
  | .neg, .int k n => κ (.int k (k.wrap (0 - n)))
  | .xor, .int k n => κ (.int k (bXor k (if k.signed then -1 else k.max) n))
  | .not, .bool b => κ (.bool (!b))
  | _, _ => none
theorem unX_eq (op : UnOp) (x : AV) (κ : AV → Ans) : unX op x κ = (aUn op x).bind κ := by
  cases op <;> cases x <;> rfl

/-! ## slices -/
def cutX (sz l h : Nat) (av : AV) (κ : AV → Ans) : Ans := match av with
  | .msl k g z o _ => chk (z = sz) (κ (.msl k g z (o + l * sz) (h - l)))
  | .isl z n cells => chk (z = sz) (chk (cells.length = n * sz) (takeX cells (l * sz) ((h - l) * sz) fun c => κ (.isl z (h - l) c)))
  | .fsl z n cells => chk (z = sz) (chk (cells.length = n * sz) (takeX cells (l * sz) ((h - l) * sz) fun c => κ (.isl z (h - l) c)))
  | .nsl => κ .nsl
  | _ => none
theorem cutX_eq (sz l h : Nat) (av : AV) (κ : AV → Ans) : cutX sz l h av κ = (cutA sz l h av).bind κ := by
  cases av <;> simp only [cutX, cutA, chk, takeX] <;> try rfl
  · split <;> rfl
  · rename_i z n cells; by_cases h1 : z = sz <;> by_cases h2 : cells.length = n * sz <;> simp [h1, h2]
  · rename_i z n cells; by_cases h1 : z = sz <;> by_cases h2 : cells.length = n * sz <;> simp [h1, h2]
def bndX (d : Int) (v : Option AV) (κ : Int → Ans) : Ans := match v with
  | some (.int _ n) => κ n
  | some _ => none
  | none => κ d
theorem bndX_eq (d : Int) (v : Option AV) (κ : Int → Ans) : bndX d v κ = (bnd d v).bind κ := by
  cases v with
  | none => rfl
  | some v => cases v <;> rfl
def optOpX (st : St) (x : Option Operand) (κ : Option AV → Ans) : Ans := match x with
  | some x => opX st x fun v => κ (some v)
  | none => κ none
theorem optOpX_eq (st : St) (x : Option Operand) (κ : Option AV → Ans) : optOpX st x κ = κ (x.map (operand st)) := by
  cases x <;> simp only [optOpX, opX_eq, Option.map_some, Option.map_none]
def sliceX (sz : Nat) (x : AV) (lo hi : Option AV) (κ : AV → Ans) : Ans :=
  optX (slLen x) fun n => bndX n hi fun h => bndX 0 lo fun l => chk (0 ≤ l ∧ l ≤ h ∧ h ≤ n) (cutX sz l.toNat h.toNat x κ)
theorem sliceX_eq (sz : Nat) (x : AV) (lo hi : Option AV) (κ : AV → Ans) : sliceX sz x lo hi κ = (aSlice sz x lo hi).bind κ := by
  simp only [sliceX, aSlice, optX_eq, bndX_eq, chk, cutX_eq]
  cases slLen x with
  | none => rfl
  | some n =>
    simp only [Option.bind_some, Option.bind_eq_bind]
    cases bnd n hi with
    | none => rfl
    | some h =>
      simp only [Option.bind_some]
      cases bnd 0 lo with
      | none => rfl
      | some l => simp only [Option.bind_some]; split <;> rfl
def slCellsX (st : St) (sz : Nat) (x : AV) (κ : Nat → List AV → Ans) : Ans := match x with
  | .msl s g z o n => chk (z = sz) (blkX st s g fun cells => chk (o + n * sz ≤ cells.length) (takeX cells o (n * sz) fun c => κ n c))
  | .isl z n cells => chk (z = sz) (chk (cells.length = n * sz) (κ n cells))
  | .fsl z n cells => chk (z = sz) (chk (cells.length = n * sz) (κ n cells))
  | .nsl => κ 0 []
  | _ => none
theorem slCellsX_eq (st : St) (sz : Nat) (x : AV) (κ : Nat → List AV → Ans) : slCellsX st sz x κ = (slCells st sz x).bind fun p => κ p.1 p.2 := by
  cases x <;> simp only [slCellsX, slCells, chk, takeX, blkX_eq] <;> try rfl
  · rename_i s g z o n
    by_cases h1 : z = sz
    · simp only [h1, if_true]
      cases blkOf st s g with
      | none => rfl
      | some cells => simp only [Option.bind_some]; split <;> rfl
    · simp only [h1, if_false]; rfl
  · rename_i z n cells; by_cases h1 : z = sz <;> by_cases h2 : cells.length = n * sz <;> simp [h1, h2]
  · rename_i z n cells; by_cases h1 : z = sz <;> by_cases h2 : cells.length = n * sz <;> simp [h1, h2]
/-- A key, reckoned. -/
def keyX (k : Nat) (κ : Nat → Ans) : Ans := κ k
/-- Cells behind cells. -/
def joinX (a b : List AV) (κ : List AV → Ans) : Ans := κ (a ++ b)
def appX (sz bytes : Nat) (st : St) (d : Nat) (s x : AV) (κ : AV → St → Ans) : Ans := slCellsX st sz x fun n new => match s with
  | .nsl => chk (0 < bytes ∧ 0 < sz ∧ n * bytes ≤ 140737488355328) (newX st d new fun g st' => κ (.msl d g sz 0 n) st')
  | .msl site g z o m => blkX st site g fun cells => chk (z = sz) (chk (0 < bytes ∧ 0 < sz) (chk (o + m * sz = cells.length) (chk ((m + n) * bytes ≤ 140737488355328)
      (joinX (cells.drop o) new fun c => keyX (m + n) fun q => newX st site c fun g' st' => κ (.msl site g' sz 0 q) st'))))
  | _ => none
theorem appX_eq (sz bytes : Nat) (st : St) (d : Nat) (s x : AV) (κ : AV → St → Ans) : appX sz bytes st d s x κ = (aAppend sz bytes st d s x).bind fun p => κ p.1 p.2 := by
  simp only [appX, aAppend, slCellsX_eq, chk, newX_eq, blkX_eq, joinX, keyX]
  cases slCells st sz x with
  | none => rfl
  | some p =>
    obtain ⟨n, new⟩ := p
    simp only [Option.bind_some, Option.bind_eq_bind]
    cases s <;> simp only [] <;> try rfl
    · rename_i site g z o m
      cases blkOf st site g with
      | none => rfl
      | some cells =>
        simp only [Option.bind_some]
        by_cases h1 : z = sz <;> by_cases h2 : 0 < bytes ∧ 0 < sz <;> by_cases h3 : o + m * sz = cells.length <;> by_cases h4 : (m + n) * bytes ≤ 140737488355328 <;> simp [h1, h2, h3, h4]
    · split <;> rfl

/-! ## calls -/
def lendX (L : Nat → Option TI) (st : St) : Nat → List AV → List Nat → (List AV → List (Option (List AV)) → List (Option (Nat × Nat × Nat)) → Ans) → Ans
  | _, [], _, κ => κ [] [] []
  | j, v :: vs, ts, κ => match v with
    | .ref s g o => blkX st s g fun cells => optX (lendSize L (cells.length - o) ts.head?) fun n => chk (o + n ≤ cells.length) (takeX cells o n fun c =>
        lendX L st (j + 1) vs (ts.drop 1) fun a b p => κ (.ref j (st.tag + 1, 0) 0 :: a) (some c :: b) (some (s, o, n) :: p))
    | .msl s g z o n => blkX st s g fun cells => chk (o + n * z ≤ cells.length) (takeX cells o (n * z) fun c =>
        lendX L st (j + 1) vs (ts.drop 1) fun a b p => κ (.isl z n c :: a) (none :: b) (none :: p))
    | .fsl z n cells => lendX L st (j + 1) vs (ts.drop 1) fun a b p => κ (.isl z n cells :: a) (none :: b) (none :: p)
    | .tup _ => none
    | .mapd _ _ => none
    | v => lendX L st (j + 1) vs (ts.drop 1) fun a b p => κ (v :: a) (none :: b) (none :: p)
theorem lendX_eq (L : Nat → Option TI) (st : St) (j : Nat) (vs : List AV) (ts : List Nat) (κ : List AV → List (Option (List AV)) → List (Option (Nat × Nat × Nat)) → Ans) :
    lendX L st j vs ts κ = (lendAll L st j vs ts).bind fun l => κ (l.map (·.1)) (l.map (·.2.1)) (l.map (·.2.2)) := by
  induction vs generalizing j ts κ with
  | nil => rfl
  | cons v vs ih =>
    simp only [lendX, lendAll]
    cases v <;> simp only [lend, blkX_eq, optX_eq, chk, takeX, ih, Option.bind_eq_bind] <;> try (cases lendAll L st (j + 1) vs (ts.drop 1) <;> rfl)
    · rename_i s g o
      cases blkOf st s g with
      | none => rfl
      | some cells =>
        simp only [Option.bind_some]
        cases lendSize L (cells.length - o) ts.head? with
        | none => rfl
        | some n =>
          simp only [Option.bind_some]
          split
          · cases lendAll L st (j + 1) vs (ts.drop 1) <;> rfl
          · rfl
    · rename_i s g z o n
      cases blkOf st s g with
      | none => rfl
      | some cells =>
        simp only [Option.bind_some]
        split
        · cases lendAll L st (j + 1) vs (ts.drop 1) <;> rfl
        · rfl
def giveX (st : St) : List (Option (Nat × Nat × Nat)) → List (Option (List AV)) → (St → Ans) → Ans
  | [], [], κ => κ st
  | none :: l, none :: r, κ => giveX st l r κ
  | some (s, o, n) :: l, some cells :: r, κ => agetX s st.heap (fun b => chk (cells.length = n) (setX b.cells o cells fun c => putCellsX st s c fun st' => giveX st' l r κ)) none
  | _, _, _ => none
theorem giveX_eq (st : St) (l : List (Option (Nat × Nat × Nat))) (r : List (Option (List AV))) (κ : St → Ans) : giveX st l r κ = (giveBack st l r).bind κ := by
  induction l generalizing st r with
  | nil => cases r <;> rfl
  | cons p l ih =>
    cases p with
    | none =>
      cases r with
      | nil => rfl
      | cons q r => cases q with
        | none => simp only [giveX, giveBack, ih]
        | some c => rfl
    | some p =>
      obtain ⟨s, o, n⟩ := p
      cases r with
      | nil => rfl
      | cons q r => cases q with
        | none => rfl
        | some c =>
          simp only [giveX, giveBack, agetX_eq, chk, setX, putCellsX_eq, ih]
          cases aget s st.heap with
          | none => rfl
          | some b => simp only; split <;> rfl
def adoptX (own : Bool) (st : St) (d : Nat) (v : AV) (κ : AV → St → Ans) : Ans := match own with
  | true => match v with
    | .fsl z n cells => newX st d cells fun g st' => κ (.msl d g z 0 n) st'
    | v => κ v st
  | false => κ v st
theorem adoptX_eq (own : Bool) (st : St) (d : Nat) (v : AV) (κ : AV → St → Ans) : adoptX own st d v κ = κ (adopt own st d v).1 (adopt own st d v).2 := by
  cases own
  · rfl
  · cases v <;> simp only [adoptX, adopt, newX_eq, if_true]
def callX (L : Nat → Option TI) (own : Bool) (Γ : Oracle) (st : St) (d f : Nat) (args : List AV) (ts : List Nat) (κ : AV → St → Ans) : Ans :=
  lendX L st 0 args ts fun a b p => match lentApart p && readFree p args with
    | true => resX (Γ f (st.tag + 1) a b) fun v r => giveX st p r fun st' => adoptX own st' d v κ
    | false => none
theorem callX_eq (L : Nat → Option TI) (own : Bool) (Γ : Oracle) (st : St) (d f : Nat) (args : List AV) (ts : List Nat) (κ : AV → St → Ans) :
    callX L own Γ st d f args ts κ = (aCall L own Γ st d f args ts).bind fun p => κ p.1 p.2 := by
  simp only [callX, aCall, lendX_eq]
  cases lendAll L st 0 args ts with
  | none => rfl
  | some l =>
    simp only [Option.bind_some, Option.bind_eq_bind]
    cases lentApart (l.map (·.2.2)) && readFree (l.map (·.2.2)) args
    · rfl
    · simp only [resX, if_true]
      cases Γ f (st.tag + 1) (l.map (·.1)) (l.map (·.2.1)) with
      | none => rfl
      | some q =>
        obtain ⟨v, r⟩ := q
        simp only [Option.bind_some, giveX_eq, adoptX_eq]
        cases giveBack st (l.map (·.2.2)) r <;> rfl


def roX (L : Nat → Option TI) (Γ : Oracle) (st : St) (f : Nat) (args : List AV) (ts : List Nat) (κ : AV → St → Ans) : Ans :=
  lendX L st 0 args ts fun a b p => match lentApart p && readFree p args with
    | true => resX (Γ f (st.tag + 1) a b) fun v r => match lentSame b r with
      | true => κ v st
      | false => none
    | false => none
theorem roX_eq (L : Nat → Option TI) (Γ : Oracle) (st : St) (f : Nat) (args : List AV) (ts : List Nat) (κ : AV → St → Ans) :
    roX L Γ st f args ts κ = (roCall L Γ st f args ts).bind fun p => κ p.1 p.2 := by
  simp only [roX, roCall, lendX_eq]
  cases lendAll L st 0 args ts with
  | none => rfl
  | some l =>
    simp only [Option.bind_some, Option.bind_eq_bind]
    cases lentApart (l.map (·.2.2)) && readFree (l.map (·.2.2)) args
    · rfl
    · simp only [resX, if_true]
      cases Γ f (st.tag + 1) (l.map (·.1)) (l.map (·.2.1)) with
      | none => rfl
      | some q =>
        obtain ⟨v, r⟩ := q
        simp only [Option.bind_some]
        cases lentSame (l.map (·.2.1)) r <;> rfl

/-- A call that takes the memory with it. -/
def hX (rd : Option (List Nat)) (Γ : Oracle) (st : St) (d f : Nat) (args : List AV) (κ : AV → St → Ans) : Ans := (hCall rd Γ st d f args).bind fun p => κ p.1 p.2

/-! ## operations -/
def tiX (L : Nat → Option TI) (t : Nat) (κ : TI → Ans) : Ans := match L t with | some i => κ i | none => none
theorem tiX_eq (L : Nat → Option TI) (t : Nat) (κ : TI → Ans) : tiX L t κ = (L t).bind κ := by
  unfold tiX; cases L t <;> rfl
def plX (L : Nat → Option TI) (fs : List (Nat × Nat)) (k : Nat) : Option (Nat × Nat) := match fs[k]? with
  | some (o, ty) => match L ty with
    | some j => some (o, j.size)
    | none => none
  | none => none
theorem plX_eq (L : Nat → Option TI) (fs : List (Nat × Nat)) : (fun k => do let (o, ty) ← fs[k]?; let j ← L ty; some (o, j.size)) = plX L fs := by
  funext k
  unfold plX
  cases fs[k]? with
  | none => rfl
  | some p =>
    obtain ⟨o, ty⟩ := p
    simp only [Option.bind_eq_bind, Option.bind_some]
    cases L ty <;> rfl
def fldX (L : Nat → Option TI) (s f : Nat) (κ : Nat → TI → Ans) : Ans := tiX L s fun i => match i.desc with
  | .strct fs => match fs[f]? with
    | some (o, t) => tiX L t fun j => κ o j
    | none => none
  | _ => none
theorem fldX_eq (L : Nat → Option TI) (s f : Nat) (κ : Nat → TI → Ans) : fldX L s f κ = (fieldOf L s f).bind fun p => κ p.1 p.2 := by
  simp only [fldX, fieldOf, tiX_eq]
  cases L s with
  | none => rfl
  | some i =>
    simp only [Option.bind_some, Option.bind_eq_bind]
    cases i.desc <;> simp only <;> try rfl
    rename_i fs
    cases fs[f]? with
    | none => rfl
    | some p =>
      obtain ⟨o, t⟩ := p
      simp only [Option.bind_some]
      cases L t <;> rfl
def selX (L : Nat → Option TI) (t : Nat) (κ : TI → Ans) : Ans := tiX L t fun i => match i.desc with
  | .slice e => tiX L e κ
  | _ => none
theorem selX_eq (L : Nat → Option TI) (t : Nat) (κ : TI → Ans) : selX L t κ = (slElem L t).bind κ := by
  simp only [selX, slElem, tiX_eq]
  cases L t with
  | none => rfl
  | some i =>
    simp only [Option.bind_some, Option.bind_eq_bind]
    cases i.desc <;> rfl
/-- What a map of one's own holds. -/
def mapX (st : St) (s : Nat) (g : Nat × Nat) (κ : List AV → List AV → Ans) : Ans := match st with
  | ⟨_, heap, _, _⟩ => match isMapKey s with
    | false => none
    | true => agetX s heap (fun b => match b with | ⟨σ, cells⟩ => chk (σ = g) (match cells with | [.mapd ks vs] => κ ks vs | _ => none)) none
theorem mapX_eq (st : St) (s : Nat) (g : Nat × Nat) (κ : List AV → List AV → Ans) : mapX st s g κ = (mapOf st s g).bind fun p => κ p.1 p.2 := by
  obtain ⟨env, heap, next, tag⟩ := st
  simp only [mapX, mapOf, agetX_eq, chk]
  cases isMapKey s with
  | false => rfl
  | true =>
  simp only [if_true]
  cases aget s heap with
  | none => rfl
  | some b =>
    obtain ⟨σ, cells⟩ := b
    simp only
    by_cases h : σ = g
    · simp only [h, if_true]
      rcases cells with _ | ⟨c, _ | ⟨c2, r⟩⟩
      · rfl
      · cases c <;> rfl
      · cases c <;> rfl
    · simp only [h, if_false]; rfl
def mapArgX (st : St) (m : AV) (κ : List AV → List AV → Ans) : Ans := match m with
  | .mref s g => mapX st s g κ
  | .nilM => κ [] []
  | _ => none
theorem mapArgX_eq (st : St) (m : AV) (κ : List AV → List AV → Ans) : mapArgX st m κ = (mapArg st m).bind fun p => κ p.1 p.2 := by
  cases m <;> simp only [mapArgX, mapArg, mapX_eq] <;> rfl
def builtinX (L : Nat → Option TI) (st : St) (d : Nat) (b : Builtin) (ts : List Nat) (args : List AV) (κ : AV → St → Ans) : Ans := match b, ts, args with
  | .append, t :: t' :: _, [s, x] => selX L t fun e => chk (t' = t ∧ e.zero.length = e.size) (appX e.size e.bytes st d s x κ)
  | .copy, t :: t' :: _, [.msl s g z o m, x] => selX L t fun e => selX L t' fun _ => slCellsX st e.size x fun n new => blkX st s g fun cells =>
    chk (z = e.size ∧ o + m * z ≤ cells.length) (takeX new 0 (min n m * z) fun c => setX cells o c fun c => putCellsX st s c fun st' => κ (.int .i64 (min n m : Nat)) st')
  | .clear, t :: _, [.msl s g z o m] => selX L t fun e => blkX st s g fun cells => chk (z = e.size ∧ o + m * z ≤ cells.length ∧ e.zero.length = z ∧ 0 < z)
      (normX (repl m e.zero) fun r => setX cells o r fun c => putCellsX st s c fun st' => κ (.tup []) st')
  | .delete, t :: _, [.mref s g, k] => optX (mapTy L t) fun q => match q with | (kt, _) => mapX st s g fun ks vs => chk (keyEq kt k k = some true) (optX (mdel kt k ks vs) fun r => match r with | (ks', vs') => putCellsX st s [.mapd ks' vs'] fun st' => κ (.tup []) st')
  | b, ts, args => optX (aBuiltin L st d b ts args) fun p => match p with | (v, st') => κ v st'
theorem builtinX_eq (L : Nat → Option TI) (st : St) (d : Nat) (b : Builtin) (ts : List Nat) (args : List AV) (κ : AV → St → Ans) : builtinX L st d b ts args κ = (aBuiltin L st d b ts args).bind fun p => κ p.1 p.2 := by
  unfold builtinX
  split
  · rename_i t t' _ s x
    simp only [selX_eq, chk, appX_eq, aBuiltin]
    cases slElem L t with
    | none => rfl
    | some e => simp only [Option.bind_some, Option.bind_eq_bind]; split <;> rfl
  · rename_i t t' _ s g z o m x
    simp only [selX_eq, chk, slCellsX_eq, blkX_eq, takeX, setX, putCellsX_eq, aBuiltin]
    cases slElem L t with
    | none => rfl
    | some e =>
      simp only [Option.bind_some, Option.bind_eq_bind]
      cases slElem L t' with
      | none => rfl
      | some e' =>
        simp only [Option.bind_some]
        cases slCells st e.size x with
        | none => rfl
        | some p =>
          obtain ⟨n, new⟩ := p
          simp only [Option.bind_some]
          cases blkOf st s g with
          | none => rfl
          | some cells => simp only [Option.bind_some, List.drop_zero]; split <;> rfl
  · rename_i t _ s g z o m
    simp only [selX_eq, chk, blkX_eq, normX, setX, putCellsX_eq, aBuiltin]
    cases slElem L t with
    | none => rfl
    | some e =>
      simp only [Option.bind_some, Option.bind_eq_bind]
      cases blkOf st s g with
      | none => rfl
      | some cells => simp only [Option.bind_some]; split <;> rfl
  · rename_i t _ s g k
    simp only [optX_eq, chk, mapX_eq, putCellsX_eq, aBuiltin]
    cases mapTy L t with
    | none => rfl
    | some q =>
      obtain ⟨kt, e⟩ := q
      simp only [Option.bind_some, Option.bind_eq_bind]
      cases mapOf st s g with
      | none => rfl
      | some p =>
        obtain ⟨ks, vs⟩ := p
        simp only [Option.bind_some]
        split
        · cases mdel kt k ks vs <;> rfl
        · rfl
  · rw [optX_eq]

/-- The numbers of a row of bytes. -/
def bytX (cells : List AV) (κ : List Int → Ans) : Ans := match u8s cells with | some xs => κ xs | none => none
/-- A number, as one counts. -/
def natX (n : Int) (κ : Nat → Ans) : Ans := κ n.toNat

def assignX (L : Nat → Option TI) (K : Ann) (st : St) (d ty : Nat) (x : Operand) (κ : AV → St → Ans) : Ans := match x with
  | .const c => match ofConst c with
    | .nsl => match K.own.contains d with
      | true => selX L ty fun e => newX st d [] fun g st' => κ (.msl d g e.size 0 0) st'
      | false => κ .nsl st
    | v => κ v st
  | x => opX st x fun v => κ v st

def shortX (st : St) (l : List AV) (κ : List AV → St → Ans) : Ans := match l with
  | .msl s g z o m :: r => blkX st s g fun cells => chk (o + m * z ≤ cells.length) (takeX cells 0 (o + m * z) fun c => newX st s c fun g' st' => κ (.msl s g' z o m :: r) st')
  | l => κ l st
theorem shortX_eq (st : St) (l : List AV) (κ : List AV → St → Ans) : shortX st l κ = (shorten st l).bind fun p => κ p.1 p.2 := by
  unfold shortX shorten
  split
  · simp only [blkX_eq, chk, takeX, newX_eq, List.drop_zero]
    rename_i s g z o m r
    cases blkOf st s g with
    | none => rfl
    | some cells =>
      simp only [Option.bind_some]
      split <;> rfl
  · rename_i h
    split
    · rename_i s g z o m r
      exact (h s g z o m r rfl).elim
    · rfl
def builtinK (L : Nat → Option TI) (K : Ann) (st : St) (d : Nat) (b : Builtin) (ts : List Nat) (κ : AV → St → Ans) (args : List AV) : Ans := match K.hp.contains d && isAppend b with
  | true => shortX st args fun args st' => builtinX L st' d b ts args κ
  | false => builtinX L st d b ts args κ
def exOp (L : Nat → Option TI) (K : Ann) (Γ : Oracle) (st : St) (d ty : Nat) (op : Op) (κ : AV → St → Ans) : Ans := match op with
  | .move x => opX st x fun v => κ v st
  | .assign x => assignX L K st d ty x κ
  | .pick c a b => opX st c fun v => match v with
    | .bool x => brX x (opX st a fun v => κ v st) (opX st b fun v => κ v st)
    | _ => none
  | .alloc e => tiX L e fun i => normX i.zero fun z => newX st d z fun g st' => κ (.ref d g 0) st'
  | .box _ x => opX st x fun v => match v.solid with
    | true => cellsX v fun cs => newX st d cs fun g st' => κ (.ref d g 0) st'
    | false => none
  | .build t ps => tiX L t fun i => match i.desc with
    | .strct fs => partsX st ps.toList fun pv => normX i.zero fun z => fillX (plX L fs) z pv fun cs => κ (.agg cs) st
    | .arr _ e => tiX L e fun j => partsX st ps.toList fun pv => normX i.zero fun z => fillX (fun k => some (k * j.size, j.size)) z pv fun cs => κ (.agg cs) st
    | _ => none
  | .buildSlice t n ps => selX L t fun e => chk (n * e.size ≤ 16777216 ∧ e.zero.length = e.size ∧ 0 < e.size)
      (partsX st ps.toList fun pv => normX (repl n e.zero) fun z => fillX (fun k => some (k * e.size, e.size)) z pv fun cs => newX st d cs fun g st' => κ (.msl d g e.size 0 n) st')
  | .load t a => opX st a fun p => match okRead (aget d K.reads) p with
    | false => none
    | true => tiX L t fun i => gldX K.reads i st p fun v => κ v st
  | .store t a x => opX st a fun p => match okStore (K.storeAt a) p with
    | false => none
    | true => tiX L t fun i => opX st x fun v => stX i st p v fun st' => κ (.tup []) st'
  | .nilCheck x => opX st x fun v => match v with
    | .ref s g o => κ (.ref s g o) st
    | .ipt c => κ (.ipt c) st
    | _ => none
  | .binOp op t x y _ => opX st x fun a => opX st y fun b => binX L t op (isConstO x || isConstO y) a b fun v => κ v st
  | .unOp op _ x => opX st x fun v => unX op v fun v => κ v st
  | .typeAssert x _ t ok => opX st x fun v => optX (aAs L t ok v) fun v => κ v st
  | .convert s t x => tiX L s fun i => tiX L t fun j => opX st x fun v => match i.desc, j.desc, v with
    | .int _, .int k, .int _ n => κ (.int k (k.wrap n)) st
    | .slice e, .str, v => match okRead (aget d K.reads) v with
      | false => none
      | true => tiX L e fun ie => match ie.desc with
        | .int .u8 => slCellsX st 1 v fun _ cells => bytX cells fun xs => κ (.str (strOfNums xs)) st
        | _ => none
    | _, _, _ => none
  | .makeSlice t ln cp => selX L t fun e => opX st ln fun a => opX st cp fun b => match a, b with
    | .int _ n, .int _ k => chk (0 ≤ n ∧ n ≤ k ∧ k.toNat * e.size ≤ 16777216 ∧ k.toNat * e.bytes ≤ 140737488355328 ∧ k ≤ 140737488355328 ∧ e.zero.length = e.size ∧ 0 < e.size)
        (natX n fun n => normX (repl n e.zero) fun z => newX st d z fun g st' => κ (.msl d g e.size 0 n) st')
    | _, _ => none
  | .fieldAddr s x f => fldX L s f fun o j => match Nat.beq j.size 0 with
    | true => none
    | false => opX st x fun v => match v with
      | .ref s g k => κ (.ref s g (k + o)) st
      | .ipt cells => κ (.ipt (cells.drop o)) st
      | _ => none
  | .field s x f => fldX L s f fun o j => opX st x fun v => match v with
    | .agg cs => rdX j cs o fun v => κ v st
    | _ => none
  | .indexAddr t x ix => opX st x fun v => match okRead (aget d K.reads) v with
    | false => none
    | true => tiX L t fun i => opX st ix fun iv => match iv with
      | .int _ k => match i.desc with
        | .arr n e => tiX L e fun j => chk (0 ≤ k ∧ k < n) (match v with
          | .ref s g o => κ (.ref s g (o + k.toNat * j.size)) st
          | .ipt cells => κ (.ipt (cells.drop (k.toNat * j.size))) st
          | _ => none)
        | .slice e => tiX L e fun j => match v with
          | .msl s g z o n => chk (z = j.size ∧ 0 ≤ k ∧ k < n) (blkX st s g fun _ => κ (.ref s g (o + k.toNat * j.size)) st)
          | .isl z n cells => chk (z = j.size ∧ 0 ≤ k ∧ k < n) (κ (.ipt (cells.drop (k.toNat * j.size))) st)
          | .fsl z n cells => chk (z = j.size ∧ 0 ≤ k ∧ k < n) (κ (.ipt (cells.drop (k.toNat * j.size))) st)
          | _ => none
        | _ => none
      | _ => none
  | .index t x ix => tiX L t fun i => opX st ix fun iv => opX st x fun v => match iv with
    | .int _ k => match i.desc, v with
      | .arr n e, .agg cs => tiX L e fun j => chk (0 ≤ k ∧ k < n) (rdX j cs (k.toNat * j.size) fun v => κ v st)
      | .str, .str s => chk (0 ≤ k) (strX s k.toNat fun v => κ v st)
      | _, _ => none
    | _ => none
  | .slice t x lo hi (some mx) => opX st x fun v => match okRead (aget d K.reads) v with
    | false => none
    | true => tiX L t fun i => match i.desc with
      | .slice e => tiX L e fun _ => optX (slLen v) fun n => opX st mx fun mv => optX (asInt? mv) fun k => optOpX st hi fun h => bndX (-1) h fun hh => optOpX st lo fun l => bndX 0 l fun l =>
          chk (0 ≤ l ∧ l = hh ∧ hh = k ∧ k ≤ n ∧ v.isStr = false) (κ .nsl st)
      | _ => none
  | .slice t x lo hi none => opX st x fun v => match !okRead (aget d K.reads) v with
    | true => none
    | false => tiX L t fun i => optOpX st lo fun l => optOpX st hi fun h => match i.desc with
      | .str => optX (aStrSlice v l h) fun v => κ v st
      | .slice e => tiX L e fun j => sliceX j.size v l h fun v => κ v st
      | .arr n e => tiX L e fun j => match v with
        | .ref s g o => blkX st s g fun cells => chk (o + n * j.size ≤ cells.length) (sliceX j.size (.msl s g j.size o n) l h fun v => κ v st)
        | _ => none
      | _ => none
  | .extract x k => opX st x fun v => match v with
    | .tup vs => optX vs[k]? fun v => κ v st
    | _ => none
  | .call c => match c.callee with
    | .builtin b => opsX st c.args.toList (builtinK L K st d b c.argTypes.toList κ)
    | .value f => opX st f fun v => match v with
      | .fn g captured => opsX st c.args.toList fun args => joinX args captured fun args => match K.hp.contains d with
        | true => hX (aget d K.reads) Γ st d g args κ
        | false => match args.all (okRead (aget d K.reads)) with
          | true => match K.ro.contains d with
            | false => callX L (K.own.contains d) Γ st d g args c.argTypes.toList κ
            | true => roX L Γ st g args c.argTypes.toList κ
          | false => none
      | _ => none
    | .invoke .. => none
  | .makeMap t none => optX (mapTy L t) fun _ => keyX (d + 500000) fun k => newX st k [.mapd [] []] fun g st' => κ (.mref k g) st'
  | .lookup t x ix ok => optX (mapTy L t) fun q => match q with | (kt, e) => tiX L e fun j => opX st x fun m => opX st ix fun k => mapArgX st m fun ks vs => optX (mlook kt j.zeroAV k ks vs) fun r => match r with | (v, is) => match ok with
    | true => κ (.tup [v, .bool is]) st
    | false => κ v st
  | .mapUpdate t x k v => optX (mapTy L t) fun q => match q with | (kt, _) => opX st x fun m => match m with
    | .mref s g => opX st k fun kv => opX st v fun vv => mapX st s g fun ks vs => chk (keyEq kt kv kv = some true ∧ vv.solid = true ∧ vv.top = true) (optX (mput kt kv vv ks vs) fun r => match r with | (ks', vs') => putCellsX st s [.mapd ks' vs'] fun st' => κ (.tup []) st')
    | _ => none
  | .makeFunc fn first captured => match fn with
    | .func f => match Nat.beq first.size 0 with
      | true => opsX st captured.toList fun vs => match vs.all AV.isRef with
        | true => κ (.fn f vs) st
        | false => none
      | false => none
    | _ => none
  | op => optX (denOp L K Γ st d ty op) fun p => match p with | (v, st') => κ v st'

theorem exOp_eq (L : Nat → Option TI) (K : Ann) (Γ : Oracle) (st : St) (d ty : Nat) (op : Op) (κ : AV → St → Ans) : exOp L K Γ st d ty op κ = (denOp L K Γ st d ty op).bind fun p => κ p.1 p.2 := by
  cases op
  case move => simp only [exOp, denOp, opX_eq, Option.bind_some]
  case assign x =>
    simp only [exOp, denOp, assignX, opX_eq]
    cases x with
    | const c =>
      simp only [operand]
      cases hc : ofConst c <;> simp only [Option.bind_some]
      cases K.own.contains d
      · rfl
      · simp only [selX_eq, newX_eq, if_true]
        cases slElem L ty <;> rfl
    | tmp t => simp only [Option.bind_some]
    | func f => simp only [Option.bind_some]
    | global g => simp only [Option.bind_some]
  case pick c a b =>
    simp only [exOp, denOp, opX_eq]
    cases operand st c <;> simp only <;> try rfl
    rename_i x
    cases x <;> simp [brX]
  case alloc e =>
    simp only [exOp, denOp, tiX_eq, newX_eq, normX]
    cases L e <;> rfl
  case box t x =>
    simp only [exOp, denOp, opX_eq, cellsX_eq, newX_eq]
    cases (operand st x).solid <;> rfl
  case build t ps =>
    simp only [exOp, denOp, tiX_eq, partsX_eq, fillX_eq, plX_eq, parts, normX]
    cases L t with
    | none => rfl
    | some i =>
      simp only [Option.bind_some, Option.bind_eq_bind]
      cases i.desc <;> simp only <;> try rfl
      · rename_i n e
        cases L e with
        | none => rfl
        | some j =>
          simp only [Option.bind_some]
          cases fillA (fun k => some (k * j.size, j.size)) i.zero _ <;> rfl
      · rename_i fs
        cases fillA (plX L fs) i.zero _ <;> rfl
  case buildSlice t n ps =>
    simp only [exOp, denOp, selX_eq, partsX_eq, fillX_eq, newX_eq, chk, parts, normX]
    cases slElem L t with
    | none => rfl
    | some e =>
      simp only [Option.bind_some, Option.bind_eq_bind]
      split
      · cases fillA (fun k => some (k * e.size, e.size)) (repl n e.zero) _ <;> rfl
      · rfl
  case load t a =>
    simp only [exOp, denOp, opX_eq, tiX_eq, gldX_eq]
    cases okRead (aget d K.reads) (operand st a)
    · rfl
    · simp only [Bool.not_true, Bool.false_eq_true, if_false, Option.bind_eq_bind]
      cases L t with
      | none => rfl
      | some i => simp only [Option.bind_some]; cases gLoad K.reads i st (operand st a) <;> rfl
  case store t a x =>
    simp only [exOp, denOp, opX_eq, tiX_eq, stX_eq]
    cases okStore (K.storeAt a) (operand st a)
    · rfl
    · simp only [Bool.not_true, Bool.false_eq_true, if_false, Option.bind_eq_bind]
      cases L t with
      | none => rfl
      | some i => simp only [Option.bind_some]; cases aStore i st (operand st a) (operand st x) <;> rfl
  case nilCheck x =>
    simp only [exOp, denOp, opX_eq]
    cases operand st x <;> rfl
  case binOp op t x y _ =>
    simp only [exOp, denOp, opX_eq, binX_eq]
    cases aBinN L t op (isConstO x || isConstO y) (operand st x) (operand st y) <;> rfl
  case unOp op t x =>
    simp only [exOp, denOp, opX_eq, unX_eq]
    cases aUn op (operand st x) <;> rfl
  case typeAssert x q t ok =>
    simp only [exOp, denOp, opX_eq]
    cases aAs L t ok (operand st x) <;> rfl
  case convert s t x =>
    simp only [exOp, denOp, opX_eq, tiX_eq]
    cases L s with
    | none => rfl
    | some i =>
      cases L t with
      | none => rfl
      | some j =>
        simp only [Option.bind_some, Option.bind_eq_bind]
        generalize i.desc = a
        generalize j.desc = b
        generalize operand st x = v
        cases a <;> try rfl
        · cases b <;> try rfl
          cases v <;> rfl
        · rename_i e
          cases b <;> try rfl
          simp only [slCellsX_eq, bytX]
          cases okRead (aget d K.reads) v
          · rfl
          simp only [Bool.not_true, Bool.false_eq_true, if_false]
          cases L e with
          | none => rfl
          | some ie =>
            simp only [Option.bind_some]
            generalize ie.desc = dd
            cases dd <;> try rfl
            rename_i k
            cases k <;> try rfl
            cases slCells st 1 v with
            | none => rfl
            | some q =>
              simp only [Option.bind_some]
              cases u8s q.2 <;> rfl
  case fieldAddr s x f =>
    simp only [exOp, denOp, opX_eq, fldX_eq]
    cases fieldOf L s f with
    | none => rfl
    | some p =>
      obtain ⟨o, j⟩ := p
      simp only [Option.bind_some, Option.bind_eq_bind]
      rcases beq_tf j.size 0 with ⟨h, e⟩ | ⟨h, e⟩
      · simp only [h, if_pos e]; rfl
      · simp only [h, if_neg e]
        cases operand st x <;> rfl
  case field s x f =>
    simp only [exOp, denOp, opX_eq, fldX_eq, rdX_eq]
    cases fieldOf L s f with
    | none => rfl
    | some p =>
      obtain ⟨o, j⟩ := p
      simp only [Option.bind_some, Option.bind_eq_bind]
      cases operand st x <;> simp only <;> try rfl
      rename_i cs
      cases rdCells j cs o <;> rfl
  case indexAddr t x ix =>
    simp only [exOp, denOp, opX_eq, tiX_eq, blkX_eq, chk]
    cases okRead (aget d K.reads) (operand st x)
    · rfl
    · simp only [Bool.not_true, Bool.false_eq_true, if_false, Option.bind_eq_bind]
      cases L t with
      | none => rfl
      | some i =>
        simp only [Option.bind_some]
        cases operand st ix <;> simp only [asInt?, Option.bind_none, Option.bind_some] <;> try rfl
        rename_i k
        cases i.desc <;> simp only <;> try rfl
        · rename_i e
          cases L e with
          | none => rfl
          | some j =>
            simp only [Option.bind_some]
            cases operand st x <;> simp only <;> try rfl
            · rename_i s g z o n
              cases hb : blkOf st s g with
              | none => simp
              | some cells => simp only [Option.bind_some, Option.isSome_some, and_true]; split <;> rfl
            · split <;> rfl
            · split <;> rfl
        · rename_i n e
          cases L e with
          | none => rfl
          | some j =>
            simp only [Option.bind_some]
            split
            · cases operand st x <;> rfl
            · rfl
  case index t x ix =>
    simp only [exOp, denOp, opX_eq, tiX_eq, rdX_eq, chk, strX]
    cases L t with
    | none => rfl
    | some i =>
      simp only [Option.bind_some, Option.bind_eq_bind]
      cases operand st ix <;> simp only [asInt?, Option.bind_none, Option.bind_some] <;> try rfl
      rename_i k
      cases i.desc <;> (try simp only) <;> try rfl
      · cases operand st x <;> (try simp only) <;> try rfl
        rename_i s
        split
        · cases s[k.toNat]? <;> rfl
        · rfl
      · rename_i n e
        cases operand st x <;> simp only <;> try rfl
        rename_i cs
        cases L e with
        | none => rfl
        | some j =>
          simp only [Option.bind_some]
          split
          · cases rdCells j cs (k.toNat * j.size) <;> rfl
          · rfl
  case makeSlice t ln cp =>
    simp only [exOp, denOp, selX_eq, opX_eq, newX_eq, chk, normX, natX]
    cases slElem L t with
    | none => rfl
    | some e =>
      simp only [Option.bind_some, Option.bind_eq_bind]
      generalize operand st ln = a
      generalize operand st cp = b
      cases a <;> (try simp only) <;> try rfl
      cases b <;> (try simp only) <;> try rfl
      split <;> rfl
  case slice t x lo hi mx =>
    cases mx with
    | some mx =>
      simp only [exOp, denOp, opX_eq, tiX_eq, optOpX_eq, optX_eq, bndX_eq, chk]
      cases okRead (aget d K.reads) (operand st x)
      · rfl
      simp only [Bool.not_true, Bool.false_eq_true, if_false, Option.bind_eq_bind]
      cases L t with
      | none => rfl
      | some i =>
        simp only [Option.bind_some]
        cases i.desc <;> simp only <;> try rfl
        rename_i e
        cases L e with
        | none => rfl
        | some j =>
          simp only [Option.bind_some]
          cases slLen (operand st x) with
          | none => rfl
          | some n =>
            simp only [Option.bind_some]
            cases asInt? (operand st mx) with
            | none => rfl
            | some k =>
              simp only [Option.bind_some]
              cases bnd (-1) (hi.map (operand st)) with
              | none => rfl
              | some hh =>
                simp only [Option.bind_some]
                cases bnd 0 (lo.map (operand st)) with
                | none => rfl
                | some l => simp only [Option.bind_some]; split <;> rfl
    | none =>
    simp only [exOp, denOp, opX_eq, tiX_eq, optOpX_eq, optX_eq, sliceX_eq, blkX_eq, chk]
    cases !okRead (aget d K.reads) (operand st x)
    · simp only [Bool.false_eq_true, if_false, Option.bind_eq_bind]
      cases L t with
      | none => rfl
      | some i =>
        simp only [Option.bind_some]
        cases i.desc <;> simp only <;> try rfl
        · cases aStrSlice (operand st x) (lo.map (operand st)) (hi.map (operand st)) <;> rfl
        · rename_i e
          cases L e with
          | none => rfl
          | some j => simp only [Option.bind_some]; cases aSlice j.size (operand st x) (lo.map (operand st)) (hi.map (operand st)) <;> rfl
        · rename_i n e
          cases L e with
          | none => rfl
          | some j =>
            simp only [Option.bind_some]
            cases operand st x <;> simp only <;> try rfl
            rename_i s g o
            cases blkOf st s g with
            | none => rfl
            | some cells =>
              simp only [Option.bind_some]
              split
              · cases aSlice j.size (.msl s g j.size o n) (lo.map (operand st)) (hi.map (operand st)) <;> rfl
              · rfl
    · rfl
  case extract x k =>
    simp only [exOp, denOp, opX_eq, optX_eq]
    cases operand st x <;> simp only <;> try rfl
    rename_i vs
    cases vs[k]? <;> rfl
  case call c =>
    simp only [exOp, denOp]
    cases c.callee <;> simp only <;> try rfl
    · simp only [opX_eq, opsX_eq, joinX, callX_eq]
      rename_i f
      cases operand st f <;> simp only <;> try rfl
      rename_i g captured
      cases K.hp.contains d
      · cases (c.args.toList.map (operand st) ++ captured).all (okRead (aget d K.reads)) <;> simp only <;> try rfl
        cases K.ro.contains d
        · rfl
        · simp only [roX_eq]; rfl
      · rfl
    · rename_i b
      simp only [opsX_eq, builtinK]
      cases K.hp.contains d && isAppend b
      · simp only [builtinX_eq]; rfl
      · simp only [shortX_eq, builtinX_eq, if_true]
        cases shorten st (c.args.toList.map (operand st)) <;> rfl
  case makeMap t h =>
    cases h with
    | some x => simp only [exOp, optX_eq]
    | none =>
      simp only [exOp, denOp, optX_eq, keyX, newX_eq]
      cases mapTy L t <;> rfl
  case lookup t x ix ok =>
    simp only [exOp, denOp, optX_eq, tiX_eq, opX_eq, mapArgX_eq]
    cases mapTy L t with
    | none => rfl
    | some q =>
      obtain ⟨kt, e⟩ := q
      simp only [Option.bind_some, Option.bind_eq_bind]
      cases L e with
      | none => rfl
      | some j =>
        simp only [Option.bind_some]
        cases mapArg st (operand st x) with
        | none => rfl
        | some p =>
          obtain ⟨ks, vs⟩ := p
          simp only [Option.bind_some]
          cases mlook kt j.zeroAV (operand st ix) ks vs with
          | none => rfl
          | some r => obtain ⟨v, is⟩ := r; cases ok <;> rfl
  case mapUpdate t x k v =>
    simp only [exOp, denOp, optX_eq, opX_eq]
    cases mapTy L t with
    | none => rfl
    | some q =>
      obtain ⟨kt, e⟩ := q
      simp only [Option.bind_some, Option.bind_eq_bind]
      cases operand st x <;> simp only <;> try rfl
      rename_i s g
      simp only [mapX_eq, chk, putCellsX_eq]
      cases mapOf st s g with
      | none => rfl
      | some p =>
        obtain ⟨ks, vs⟩ := p
        simp only [Option.bind_some]
        split
        · cases mput kt (operand st k) (operand st v) ks vs <;> rfl
        · rfl
  case makeFunc fn first captured =>
    simp only [exOp, denOp, opsX_eq]
    cases fn <;> simp only <;> try rfl
    rcases beq_tf first.size 0 with ⟨h, e⟩ | ⟨h, e⟩
    · simp only [h, if_pos e]
      cases (captured.toList.map (operand st)).all AV.isRef <;> rfl
    · simp only [h, if_neg e]; rfl
  all_goals
    simp only [exOp, optX_eq]

/-! ## code -/
def exOps (L : Nat → Option TI) (K : Ann) (Γ : Oracle) (ops : List Oper) : List Oper → St → (St → Ans) → Ans
  | [], st, κ => κ st
  | ⟨d, op, ty, _, _, g⟩ :: l, st, κ => match Nat.blt (d.getD 0) K.nt with
    | false => none
    | true => match g with
      | none => exOp L K Γ st (d.getD 0) ty op fun v st' => putX st' d v fun s => exOps L K Γ ops l s κ
      | some (j, want) => match (ops[j]?).bind (·.dst) with
        | none => none
        | some d0 => match st with
          | ⟨env, heap, next, tag⟩ => agetX d0 env (fun v => match v with
            | .bool b => match want with
              | true => brX b (aputX d0 (.bool true) env fun env => exOp L K Γ ⟨env, heap, next, tag⟩ (d.getD 0) ty op fun v st' => putX st' d v fun s => exOps L K Γ ops l s κ) (aputX d0 (.bool false) env fun env => putX ⟨env, heap, next, tag⟩ d (.tup []) fun s => exOps L K Γ ops l s κ)
              | false => brX b (aputX d0 (.bool true) env fun env => putX ⟨env, heap, next, tag⟩ d (.tup []) fun s => exOps L K Γ ops l s κ) (aputX d0 (.bool false) env fun env => exOp L K Γ ⟨env, heap, next, tag⟩ (d.getD 0) ty op fun v st' => putX st' d v fun s => exOps L K Γ ops l s κ)
            | .tup [] => putX ⟨env, heap, next, tag⟩ d (.tup []) fun s => exOps L K Γ ops l s κ
            | _ => none) none

theorem exOps_eq (L : Nat → Option TI) (K : Ann) (Γ : Oracle) (ops l : List Oper) (st : St) (κ : St → Ans) : exOps L K Γ ops l st κ = (denOps L K Γ ops l st).bind κ := by
  induction l generalizing st κ with
  | nil => rfl
  | cons o l ih =>
    obtain ⟨d, op, ty, pos, after, g⟩ := o
    simp only [exOps, denOps, denOper]
    cases hb : Nat.blt (d.getD 0) K.nt with
    | false =>
      have : ¬ d.getD 0 < K.nt := fun h => by rw [Nat.blt, Nat.ble_eq_true_of_le h] at hb; cases hb
      rw [if_neg this]; rfl
    | true =>
      have : d.getD 0 < K.nt := Nat.le_of_ble_eq_true hb
      rw [if_pos this]
      cases g with
      | none =>
        simp only [runs, exOp_eq, putX_eq, ih]
        cases denOp L K Γ st (d.getD 0) ty op <;> rfl
      | some g =>
        obtain ⟨j, want⟩ := g
        simp only [runs]
        cases (ops[j]?).bind (·.dst) with
        | none => rfl
        | some d0 =>
          obtain ⟨env, heap, next, tag⟩ := st
          simp only [agetX_eq]
          cases hv : aget d0 env with
          | none => rfl
          | some v =>
            cases v <;> simp only <;> try rfl
            · rename_i b
              have hput : ∀ x, b = x → aput d0 (.bool x) env = env := fun x e => aput_same (e ▸ hv)
              cases want <;> cases b <;> simp only [brX, aputX_eq, hput _ rfl, exOp_eq, putX_eq, ih] <;>
                first
                  | (cases denOp L K Γ ⟨env, heap, next, tag⟩ (d.getD 0) ty op <;> rfl)
                  | rfl
            · rename_i vs
              cases vs
              · simp only [putX_eq, ih]; rfl
              · rfl

/-- A loop, on its way to its head. -/
noncomputable def loopX (F : Fx) (a : Code) (st : St) (κ : Ex → St → Ans) : Ans := (loopOf F a st).bind fun r => κ r.1 r.2

def regK (F : Fx) (ops : List Oper) (κ : Ex → St → Ans) (s : St) : Ans := tidyX F.K.cross ops s fun s => κ .normal s
def seqK (f : St → (Ex → St → Ans) → Ans) (κ : Ex → St → Ans) (e : Ex) (s : St) : Ans := match e with
  | .normal => f s κ
  | .exit j => κ (.exit j) s
  | .ret => κ .ret s
def blkK (id : Nat) (κ : Ex → St → Ans) (e : Ex) (s : St) : Ans := match e with
  | .exit j => match Nat.beq j id with
    | true => κ .normal s
    | false => κ (.exit j) s
  | .normal => κ .normal s
  | .ret => κ .ret s
noncomputable def ex (F : Fx) : Code → St → (Ex → St → Ans) → Ans
  | .skip, st, κ => κ .normal st
  | .region _ ops _, st, κ => exOps F.L F.K F.Γ ops.toList ops.toList st (regK F ops.toList κ)
  | .seq a b, st, κ => ex F a st (seqK (fun s κ => ex F b s κ) κ)
  | .cond c a b, st, κ => opX st c fun v => match v with
    | .bool x => brX x (ex F a st κ) (ex F b st κ)
    | _ => none
  | .block id a, st, κ => ex F a st (blkK id κ)
  | .loop a, st, κ => loopX F a st κ
  | .exit id, st, κ => κ (.exit id) st
  | .ret, st, κ => κ .ret st
  | _, _, _ => none

theorem ex_eq (F : Fx) (c : Code) (st : St) (κ : Ex → St → Ans) : ex F c st κ = (den loopω F.L F.K F.Γ c st).bind fun r => κ r.1 r.2 := by
  induction c generalizing st κ
  case skip => rfl
  case region id ops draw =>
    simp only [ex, den, exOps_eq, tidyX_eq, regK]
    cases denOps F.L F.K F.Γ ops.toList ops.toList st with
    | none => rfl
    | some s => simp only [Option.bind_some, Option.map_some, regK, tidyX_eq]
  case seq a b iha ihb =>
    simp only [ex, den, iha, seqK]
    cases den loopω F.L F.K F.Γ a st with
    | none => rfl
    | some p =>
      obtain ⟨e, s⟩ := p
      cases e with
      | normal => simp only [Option.bind_some, ihb]
      | _ => rfl
  case cond c a b iha ihb =>
    simp only [ex, den, opX_eq, iha, ihb]
    cases operand st c <;> simp only <;> try rfl
    rename_i x
    cases x <;> simp [brX]
  case block id a iha =>
    simp only [ex, den, iha, blkK]
    cases den loopω F.L F.K F.Γ a st with
    | none => rfl
    | some p =>
      obtain ⟨e, s⟩ := p
      cases e with
      | exit j =>
        simp only [Option.bind_some]
        rcases beq_tf j id with ⟨h, e⟩ | ⟨h, e⟩
        · simp only [h, if_pos e]; rfl
        · simp only [h, if_neg e]; rfl
      | _ => rfl
  case loop a iha => rfl
  case exit => rfl
  case ret => rfl
  all_goals rfl

/-! ## heads of loops -/
/-- A loop at its head: only what lives is there. -/
noncomputable def headX (F : Fx) (a : Code) (st : St) (κ : Ex → St → Ans) : Ans := ex F a st (seqK (loopX F a) κ)
def pickX {α : Type} : List Nat → List (Nat × α) → (List (Nat × α) → Ans) → Ans
  | [], _, κ => κ []
  | k :: ks, l, κ => agetX k l (fun v => pickX ks l fun r => κ ((k, v) :: r)) (pickX ks l κ)
theorem pickX_eq {α : Type} (ks : List Nat) (l : List (Nat × α)) (κ : List (Nat × α) → Ans) : pickX ks l κ = κ (ks.filterMap fun k => (aget k l).map (k, ·)) := by
  induction ks generalizing κ with
  | nil => rfl
  | cons k ks ih =>
    simp only [pickX, agetX_eq, ih, List.filterMap_cons]
    cases aget k l <;> rfl
def restX (sites : List Nat) : List (Nat × Blk) → (List (Nat × Blk) → Ans) → Ans
  | [], κ => κ []
  | (k, b) :: l, κ => match keepKey sites k with
    | true => restX sites l fun r => κ ((k, b) :: r)
    | false => restX sites l κ
theorem restX_eq (sites : List Nat) (l : List (Nat × Blk)) (κ : List (Nat × Blk) → Ans) : restX sites l κ = κ (l.filter fun p => keepKey sites p.1) := by
  induction l generalizing κ with
  | nil => rfl
  | cons p l ih =>
    obtain ⟨k, b⟩ := p
    simp only [restX, ih, List.filter_cons]
    cases keepKey sites k <;> rfl
def pickTX {α : Type} : List Nat → List (Nat × α) → List (Nat × α) → (List (Nat × α) → Ans) → Ans
  | [], _, base, κ => κ base
  | k :: ks, l, base, κ => agetX k l (fun v => pickTX ks l base fun r => κ ((k, v) :: r)) (pickTX ks l base κ)
theorem pickTX_eq {α : Type} (ks : List Nat) (l base : List (Nat × α)) (κ : List (Nat × α) → Ans) : pickTX ks l base κ = κ ((ks.filterMap fun k => (aget k l).map (k, ·)) ++ base) := by
  induction ks generalizing κ with
  | nil => rfl
  | cons k ks ih =>
    simp only [pickTX, agetX_eq, ih, List.filterMap_cons]
    cases aget k l <;> rfl
def trimX (h : Option (Nat × List Nat × List Nat)) (st : St) (κ : St → Ans) : Ans := match h, st with
  | some (_, slots, sites), ⟨env, heap, next, tag⟩ => pickX slots env fun e => restX sites heap fun base => pickTX sites heap base fun h => κ ⟨e, h, next, tag⟩
  | none, st => κ st
theorem trimX_eq (h : Option (Nat × List Nat × List Nat)) (st : St) (κ : St → Ans) : trimX h st κ = κ (trim h st) := by
  cases h with
  | none => rfl
  | some p => obtain ⟨_, slots, sites⟩ := p; cases st; simp only [trimX, trim, pickX_eq, pickTX_eq, restX_eq]
theorem loopX_head {F : Fx} {a : Code} {st : St} {κ : Ex → St → Ans} : loopX F a st κ = trimX (F.K.heads.find? (·.1 == firstRegion a)) st fun s => headX F a s κ := by
  rw [trimX_eq, headX, ex_eq, loopX, loopOf, loopω_eq]
  simp only [seqK]
  cases den loopω F.L F.K F.Γ a (trim (F.K.heads.find? (·.1 == firstRegion a)) st) with
  | none => rfl
  | some p => obtain ⟨e, s⟩ := p; cases e <;> rfl

/-- A loop, by induction over what is left. -/
theorem headX_ind {F : Fx} {a : Code} {κ : Ex → St → Ans} {X : Type} (S : X → St) (out : X → Ans) (μ : X → Nat) (I : X → Prop)
    (h : ∀ x, I x → (∀ y, I y → μ y < μ x → headX F a (S y) κ = out y) → ex F a (S x) (seqK (loopX F a) κ) = out x) (x : X) (hx : I x) : headX F a (S x) κ = out x := by
  generalize hn : μ x = n
  induction n using Nat.strongRecOn generalizing x with
  | ind n ih =>
    subst hn
    exact h x hx fun y hy hlt => ih (μ y) hlt y hy rfl
theorem headX_go {F : Fx} {a : Code} {κ : Ex → St → Ans} {st : St} : headX F a st κ = ex F a st (seqK (loopX F a) κ) := rfl
/-- A loop that counts up to n. -/
theorem headX_up {F : Fx} {a : Code} {κ : Ex → St → Ans} (S : Nat → St) (n : Nat) (out : Ans)
    (h : ∀ k, k < n → ex F a (S k) (seqK (loopX F a) κ) = headX F a (S (k + 1)) κ)
    (hn : ex F a (S n) (seqK (loopX F a) κ) = out) (k : Nat) (hk : k ≤ n) : headX F a (S k) κ = out := by
  obtain ⟨m, rfl⟩ : ∃ m, n = k + m := ⟨n - k, by omega⟩
  clear hk
  induction m generalizing k with
  | zero => exact hn
  | succ m ih =>
    rw [headX_go, h k (by omega)]
    refine ih (k + 1) (fun j hj => h j (by omega)) ?_
    rw [show k + 1 + m = k + (m + 1) from by omega]
    exact hn

/-- A loop that counts up to n; what is made new in it isn't counted. -/
theorem headX_upN {F : Fx} {a : Code} {κ : Ex → St → Ans} (S : Nat → Nat → St) (n : Nat) (out : Ans)
    (h : ∀ k nx, k < n → ∃ nx', ex F a (S k nx) (seqK (loopX F a) κ) = headX F a (S (k + 1) nx') κ)
    (hn : ∀ nx, ex F a (S n nx) (seqK (loopX F a) κ) = out) (k nx : Nat) (hk : k ≤ n) : headX F a (S k nx) κ = out := by
  obtain ⟨m, rfl⟩ : ∃ m, n = k + m := ⟨n - k, by omega⟩
  clear hk
  induction m generalizing k nx with
  | zero => exact hn nx
  | succ m ih =>
    obtain ⟨nx', e⟩ := h k nx (by omega)
    rw [headX_go, e]
    refine ih (k + 1) nx' (fun j nx hj => h j nx (by omega)) ?_
    rw [show k + 1 + m = k + (m + 1) from by omega]
    exact hn

/-- A loop over a list, which may be left in the midst of it. -/
theorem headX_eachN {F : Fx} {a : Code} {κ : Ex → St → Ans} {α : Type} (S : Nat → Nat → St) (l : List α) (out : List α → Ans)
    (h : ∀ k nx (hk : k < l.length), (∀ nx', headX F a (S (k + 1) nx') κ = out (l.drop (k + 1))) → ex F a (S k nx) (seqK (loopX F a) κ) = out (l[k] :: l.drop (k + 1)))
    (hn : ∀ nx, ex F a (S l.length nx) (seqK (loopX F a) κ) = out []) (nx : Nat) : headX F a (S 0 nx) κ = out l := by
  have H : ∀ m k nx, k + m = l.length → headX F a (S k nx) κ = out (l.drop k) := by
    intro m
    induction m with
    | zero =>
      intro k nx hk
      rw [show k = l.length from by omega, headX_go, hn, List.drop_length]
    | succ m ih =>
      intro k nx hk
      rw [headX_go, h k nx (by omega) fun nx' => ih (k + 1) nx' (by omega), ← List.drop_eq_getElem_cons]
  simpa using H l.length 0 nx (by omega)
/-- A loop over a list that carries things on. -/
theorem headX_fold {F : Fx} {a : Code} {κ : Ex → St → Ans} {α X : Type} (I : Nat → X → Prop) (S : Nat → X → St) (l : List α) (out : List α → X → Ans)
    (h : ∀ k x (hk : k < l.length), I k x → (∀ y, I (k + 1) y → headX F a (S (k + 1) y) κ = out (l.drop (k + 1)) y) → ex F a (S k x) (seqK (loopX F a) κ) = out (l[k] :: l.drop (k + 1)) x)
    (hn : ∀ x, I l.length x → ex F a (S l.length x) (seqK (loopX F a) κ) = out [] x) (x : X) (hx : I 0 x) : headX F a (S 0 x) κ = out l x := by
  have H : ∀ m k x, k + m = l.length → I k x → headX F a (S k x) κ = out (l.drop k) x := by
    intro m
    induction m with
    | zero =>
      intro k x hk hx
      have e : k = l.length := by omega
      subst e
      rw [headX_go, hn x hx, List.drop_length]
    | succ m ih =>
      intro k x hk hx
      rw [headX_go, h k x (by omega) hx fun y hy => ih (k + 1) y (by omega) hy, ← List.drop_eq_getElem_cons]
  simpa using H l.length 0 x (by omega) hx
/-- A loop that counts up to n and carries things on. -/
theorem headX_for {F : Fx} {a : Code} {κ : Ex → St → Ans} {X : Type} (I : Nat → X → Prop) (S : Nat → X → St) (n : Nat) (out : Ans)
    (h : ∀ k x, k < n → I k x → (∀ y, I (k + 1) y → headX F a (S (k + 1) y) κ = out) → ex F a (S k x) (seqK (loopX F a) κ) = out)
    (hn : ∀ x, I n x → ex F a (S n x) (seqK (loopX F a) κ) = out) (x : X) (hx : I 0 x) : headX F a (S 0 x) κ = out := by
  have H : ∀ m k x, k + m = n → I k x → headX F a (S k x) κ = out := by
    intro m
    induction m with
    | zero =>
      intro k x hk hx
      have e : k = n := by omega
      subst e
      rw [headX_go, hn x hx]
    | succ m ih =>
      intro k x hk hx
      rw [headX_go, h k x (by omega) hx fun y hy => ih (k + 1) y (by omega) hy]
  exact H n 0 x (by omega) hx
/-- Two ways that meet again. -/
structure Boxed (Q : Prop) : Prop where
  out : Q
theorem goal_join {Q R : Prop} (f : Boxed Q → R) (q : Q) : R := f ⟨q⟩

/-! ## results -/
def getResX (L : Nat → Option TI) (st : St) : List ResultVar → (List AV → Ans) → Ans
  | [], κ => κ []
  | .tmp k :: l, κ => opX st (.tmp k) fun v => getResX L st l fun r => κ (v :: r)
  | .cell k t :: l, κ => tiX L t fun i => opX st (.tmp k) fun p => ldX i st p fun v => getResX L st l fun r => κ (v :: r)
theorem getResX_eq (L : Nat → Option TI) (st : St) (l : List ResultVar) (κ : List AV → Ans) : getResX L st l κ = (getAll L st l).bind κ := by
  induction l generalizing κ with
  | nil => rfl
  | cons x l ih =>
    cases x with
    | tmp k =>
      simp only [getResX, getAll, getRes, opX_eq, ih, operand, Option.bind_some]
      cases getAll L st l <;> rfl
    | cell k t =>
      simp only [getResX, getAll, getRes, tiX_eq, opX_eq, ldX_eq, ih, operand]
      cases L t with
      | none => rfl
      | some i =>
        simp only [Option.bind_some]
        cases aLoad i st ((aget k st.env).getD .junk) with
        | none => rfl
        | some v => simp only [Option.bind_some]; cases getAll L st l <;> rfl
def frSlX (np : Nat) (st : St) (v : AV) (κ : Nat → Nat → List AV → Nat → Ans) : Ans := match v with
  | .msl s g z o n => blkX st s g fun cells => chk (np ≤ s ∧ s < 1000000 ∧ o = 0 ∧ 0 < z) (chk (cells.length = n * z) (chk (cells.all AV.plain = true) (κ z n cells s)))
  | _ => none
theorem frSlX_eq (np : Nat) (st : St) (v : AV) (κ : Nat → Nat → List AV → Nat → Ans) : frSlX np st v κ = (freezeSl np st v).bind fun p => κ p.1 p.2.1 p.2.2.1 p.2.2.2 := by
  cases v <;> simp only [frSlX, freezeSl] <;> try rfl
  rename_i s g z o n
  simp only [blkX_eq, chk]
  cases blkOf st s g with
  | none => rfl
  | some cells =>
    simp only [Option.bind_some, Option.bind_eq_bind]
    by_cases h1 : np ≤ s <;> by_cases h1' : s < 1000000 <;> by_cases h2 : o = 0 <;> by_cases h3 : 0 < z <;> by_cases h4 : cells.length = n * z <;> by_cases h5 : cells.all AV.plain = true <;> simp [h1, h1', h2, h3, h4, h5]
def frPl (v : AV) (a : Ans) (b : AV → Ans) : Ans := match v with
  | .nsl => a
  | c => b c
theorem frPl_ne {v : AV} {a : Ans} {b : AV → Ans} (h : v ≠ .nsl) : frPl v a b = b v := by cases v <;> first | rfl | exact absurd rfl h
def frAggX (np : Nat) (st : St) : List Nat → Nat → List AV → (List AV → List Nat → Ans) → Ans
  | [], _, cs, κ => chk (cs.all AV.plain = true) (κ cs [])
  | p :: ps, k, cs, κ => getX cs (p - k) fun c => takeX cs 0 (p - k) fun pre => normX (cs.drop (p - k + 1)) fun post => frPl c
    (chk (pre.all AV.plain = true) (frAggX np st ps (p + 1) post fun r ss => joinX pre (.nsl :: r) fun out => κ out ss))
    fun c => frSlX np st c fun z n cells s => chk (pre.all AV.plain = true) (frAggX np st ps (p + 1) post fun r ss => match ss.contains s with
      | false => joinX pre (.isl z n cells :: r) fun out => κ out (s :: ss)
      | true => none)
theorem frAggX_eq (np : Nat) (st : St) (ps : List Nat) (k : Nat) (cs : List AV) (κ : List AV → List Nat → Ans) : frAggX np st ps k cs κ = (freezeAgg np st ps k cs).bind fun p => κ p.1 p.2 := by
  induction ps generalizing k cs κ with
  | nil => simp only [frAggX, freezeAgg, chk]; split <;> rfl
  | cons p ps ih =>
    simp only [frAggX, getX, takeX, normX, joinX, chk, ih, List.drop_zero]
    cases hc : cs[p - k]? with
    | none => simp [freezeAgg, hc]
    | some v =>
      simp only
      by_cases hn : v = .nsl
      · subst hn
        rw [freezeAgg_nsl hc]
        simp only [frPl, Option.bind_eq_bind]
        cases freezeAgg np st ps (p + 1) (cs.drop (p - k + 1)) with
        | none => simp
        | some q => simp only [Option.bind_some]; split <;> rfl
      · rw [freezeAgg_ne hc hn]
        rw [frPl_ne hn, frSlX_eq]
        cases freezeSl np st v with
        | none => rfl
        | some z =>
          obtain ⟨z, n, cells, s⟩ := z
          simp only [Option.bind_some, Option.bind_eq_bind]
          cases freezeAgg np st ps (p + 1) (cs.drop (p - k + 1)) with
          | none => simp
          | some q =>
            simp only [Option.bind_some]
            by_cases hp : (cs.take (p - k)).all AV.plain = true
            · cases hs : q.2.contains s <;> simp [hp, hs]
            · simp [hp]
def frOneX (np : Nat) (ps : List Nat) (st : St) (v : AV) (κ : AV → List Nat → Ans) : Ans := match v with
  | .agg cs => match ps with
    | [] => chk (cs.all AV.plain = true) (κ (.agg cs) [])
    | ps => frAggX np st ps 0 cs fun out ss => κ (.agg out) ss
  | .msl s g z o n => frSlX np st (.msl s g z o n) fun z n cells s => κ (.fsl z n cells) [s]
  | .fsl z n cells => κ (.fsl z n cells) [passed]
  | v => match v.plain with
    | true => κ v []
    | false => none
theorem frOneX_eq (np : Nat) (ps : List Nat) (st : St) (v : AV) (κ : AV → List Nat → Ans) : frOneX np ps st v κ = (freezeOne np ps st v).bind fun p => κ p.1 p.2 := by
  cases v <;> simp only [frOneX, freezeOne, frSlX_eq] <;> try rfl
  · rename_i s g z o n
    cases freezeSl np st (.msl s g z o n) <;> rfl
  · rename_i cs
    cases ps with
    | nil => simp only [freezeAgg, chk]; split <;> rfl
    | cons p ps =>
      simp only [frAggX_eq]
      cases freezeAgg np st (p :: ps) 0 cs <;> rfl
def frAllX (np : Nat) (ps : List Nat) (st : St) : List AV → (List AV → List Nat → Ans) → Ans
  | [], κ => κ [] []
  | v :: vs, κ => frOneX np ps st v fun x s => frAllX np ps st vs fun xs ss => match s.all (fun k => !ss.contains k) with
    | true => κ (x :: xs) (s ++ ss)
    | false => none
theorem frAllX_eq (np : Nat) (ps : List Nat) (st : St) (vs : List AV) (κ : List AV → List Nat → Ans) : frAllX np ps st vs κ = (freezeAll np ps st vs).bind fun p => κ p.1 p.2 := by
  induction vs generalizing κ with
  | nil => rfl
  | cons v vs ih =>
    simp only [frAllX, freezeAll, frOneX_eq, ih]
    cases freezeOne np ps st v with
    | none => rfl
    | some p =>
      obtain ⟨x, s⟩ := p
      simp only [Option.bind_some, Option.bind_eq_bind]
      cases freezeAll np ps st vs with
      | none => rfl
      | some q =>
        obtain ⟨xs, ss⟩ := q
        simp only [Option.bind_some]
        cases s.all (fun k => !ss.contains k) <;> rfl
def outX (st : St) : Nat → List (Option (List AV)) → (List (Option (List AV)) → Ans) → Ans
  | _, [], κ => κ []
  | k, none :: l, κ => outX st (k + 1) l fun r => κ (none :: r)
  | k, some old :: l, κ => blkX st k (st.tag, 0) fun cells => chk (cells.length = old.length) (chk (cells.all AV.plain = true) (outX st (k + 1) l fun r => κ (some cells :: r)))
theorem outX_eq (st : St) (k : Nat) (l : List (Option (List AV))) (κ : List (Option (List AV)) → Ans) : outX st k l κ = (lentOut st k l).bind κ := by
  induction l generalizing k κ with
  | nil => rfl
  | cons x l ih =>
    cases x with
    | none =>
      simp only [outX, lentOut, ih]
      cases lentOut st (k + 1) l <;> rfl
    | some old =>
      simp only [outX, lentOut, blkX_eq, chk, ih]
      cases blkOf st k (st.tag, 0) with
      | none => rfl
      | some cells =>
        simp only [Option.bind_some, Option.bind_eq_bind]
        cases lentOut st (k + 1) l with
        | none => simp
        | some r => by_cases h1 : cells.length = old.length <;> by_cases h2 : cells.all AV.plain = true <;> simp [h1, h2]
def endX (vs : List AV) (r : List (Option (List AV))) : Ans := match vs with
  | [v] => some (v, r)
  | vs => some (.tup vs, r)
theorem endX_eq (vs : List AV) (r : List (Option (List AV))) : endX vs r = some (oneOrTup vs, r) := by
  match vs with
  | [] => rfl
  | [_] => rfl
  | _ :: _ :: _ => rfl
def finX (F : Fx) (e : Ex) (st : St) : Ans := match e with
  | .exit _ => none
  | _ => getResX F.L st F.results fun gs => frAllX F.np F.frz st gs fun vs _ => outX st 0 F.lent fun r => endX vs r
theorem finX_eq (F : Fx) (e : Ex) (st : St) : finX F e st = fin F e st := by
  cases e <;> simp only [finX, fin, getResX_eq, frAllX_eq, outX_eq, endX_eq]

/-- A call of a function of the table, worked off from its head on. -/
theorem call_ex {L : Nat → Option TI} {T : Nat → Option Entry} {f : Nat} {a : AFn} (h : T f = some (.code a)) {tag : Nat} {args : List AV} {lent : List (Option (List AV))} (h1 : args.length = a.np) (h2 : lent.length = a.np) :
    callω L T f tag args lent = ex ⟨L, a.ann, callω L T, a.np, a.frz, a.results, lent⟩ a.body ⟨argEnv 0 args, lentHeap tag 0 lent, 1, tag⟩ (finX ⟨L, a.ann, callω L T, a.np, a.frz, a.results, lent⟩) := by
  rw [call_go h h1 h2, ex_eq]
  simp only [go]
  congr 1
  funext r
  rw [ret_nil, finX_eq]

/-- The end of a function that took memory. -/
def finH (L : Nat → Option TI) (rs : List ResultVar) (tag : Nat) (args : List AV) (e : Ex) (st : St) : Ans := match e with
  | .exit _ => none
  | _ => do
    let gs ← getAll L st rs
    let pk ← visit none st (tag, 0) 200 (rootsAt 0 args ++ rootsAt 400000 gs) []
    if pkOk pk && st.tag == tag && (rootKeys args).all (fun k => look k (tag, 0) pk == some (k, (tag, 0))) then
      let r ← packed st pk pk
      some (oneOrTup (gs.map (ren pk)), r)
    else none
/-- A call of a function that takes memory, worked off from its head on. -/
theorem call_exh {L : Nat → Option TI} {T : Nat → Option Entry} {f : Nat} {a : AFn} (h : T f = some (.hcode a)) {tag : Nat} {args : List AV} {lent : List (Option (List AV))} (h1 : args.length = a.np) :
    callω L T f tag (.mapd [] [] :: args) lent = ex ⟨L, a.ann, callω L T, a.np, a.frz, a.results, []⟩ a.body ⟨argEnv 0 args, hHeap tag lent, 1, tag⟩ (finH L a.results tag args) := by
  rw [callω_hcode h, ex_eq, runFnH, if_pos h1]
  cases den loopω L a.ann (callω L T) a.body ⟨argEnv 0 args, hHeap tag lent, 1, tag⟩ with
  | none => rfl
  | some p =>
    obtain ⟨e, s⟩ := p
    cases e <;> rfl

/-! ## steps -/
section
variable {F : Fx} {κ : Ex → St → Ans} {st : St} {r : Ans}
theorem chk_ok {c : Prop} {_ : Decidable c} {a : Ans} (h : c) : chk c a = a := if_pos h
theorem br_yes {p : Prop} {_ : Decidable p} {a b : Ans} (h : p) : brX (decide p) a b = a := by rw [decide_eq_true h]; rfl
theorem br_no {p : Prop} {_ : Decidable p} {a b : Ans} (h : ¬ p) : brX (decide p) a b = b := by rw [decide_eq_false h]; rfl
theorem br_tt {a b : Ans} : brX true a b = a := rfl
theorem br_ff {a b : Ans} : brX false a b = b := rfl
theorem br_t {x : Bool} {a b : Ans} (h : x = true) : brX x a b = a := by rw [h]; rfl
theorem br_f {x : Bool} {a b : Ans} (h : x = false) : brX x a b = b := by rw [h]; rfl
theorem get_some {l : List AV} {o : Nat} {κ : AV → Ans} {v : AV} (h : l[o]? = some v) : getX l o κ = κ v := by rw [getX, h]
theorem str_some {s : ByteArray} {o : Nat} {κ : AV → Ans} {b : UInt8} (h : s[o]? = some b) : strX s o κ = κ (.int .u8 b.toNat) := by rw [strX, h]
theorem set_eq {cells vs c : List AV} {o : Nat} {κ : List AV → Ans} (h : setR cells o vs = c) : setX cells o vs κ = κ c := by rw [setX, h]
theorem take_eq {cells c : List AV} {o n : Nat} {κ : List AV → Ans} (h : (cells.drop o).take n = c) : takeX cells o n κ = κ c := by rw [takeX, h]
theorem norm_eq {l c : List AV} {κ : List AV → Ans} (h : l = c) : normX l κ = κ c := by rw [normX, h]
theorem nat_eq {n : Int} {m : Nat} {κ : Nat → Ans} (h : n.toNat = m) : natX n κ = κ m := by rw [natX, h]
theorem byt_eq {cells : List AV} {xs : List Int} {κ : List Int → Ans} (h : u8s cells = some xs) : bytX cells κ = κ xs := by rw [bytX, h]
theorem u8s_map (xs : List Int) : u8s (xs.map (.int .u8)) = some xs := by
  induction xs with
  | nil => rfl
  | cons x xs ih => simp only [List.map_cons, u8s, ih, Option.map_some]
theorem join_eq {a b c : List AV} {κ : List AV → Ans} (h : a ++ b = c) : joinX a b κ = κ c := by rw [joinX, h]
theorem res_some {r : Option (AV × List (Option (List AV)))} {κ : AV → List (Option (List AV)) → Ans} {v : AV} {l : List (Option (List AV))} (h : r = some (v, l)) : resX r κ = κ v l := by rw [h]; rfl
theorem ans_eq {v v' : AV} {l l' : List (Option (List AV))} (h1 : v = v') (h2 : l = l') : (some (v, l) : Ans) = some (v', l') := by rw [h1, h2]

theorem fill_nil {place : Nat → Option (Nat × Nat)} {cells : List AV} {κ : List AV → Ans} : fillX place cells [] κ = κ cells := rfl
theorem fill_cons {place : Nat → Option (Nat × Nat)} {cells vs c : List AV} {i off size : Nat} {v : AV} {rest : List (Nat × AV)} {κ : List AV → Ans} (hp : place i = some (off, size)) (hs : v.solid = true) (hv : ∀ κ', cellsX v κ' = κ' vs)
    (h1 : vs.length = size) (h2 : off + size ≤ cells.length) (hc : setR cells off vs = c) : fillX place cells ((i, v) :: rest) κ = fillX place c rest κ := by
  simp only [fillX, hp, hs, hv, chk, setX, h1, h2, hc, if_true]
theorem fill_one {place : Nat → Option (Nat × Nat)} {cells vs c : List AV} {i off size : Nat} {v : AV} {rest : List (Nat × AV)} {κ : List AV → Ans} (hp : place i = some (off, size)) (hs : v.solid = true) (hv : ∀ κ', cellsX v κ' = κ' vs)
    (h : (Nat.beq vs.length size && Nat.ble (off + size) cells.length) = true) (hc : setR cells off vs = c) : fillX place cells ((i, v) :: rest) κ = fillX place c rest κ := by
  rw [Bool.and_eq_true] at h
  exact fill_cons hp hs hv (Nat.eq_of_beq_eq_true h.1) (Nat.le_of_ble_eq_true h.2) hc
def easyV (v : AV) : Option AV := match v with
  | .ref _ _ _ | .msl _ _ _ _ _ | .tup _ | .mapd _ _ => none
  | .fsl z n c => some (.isl z n c)
  | v => some v
def cellsAt (s : Nat) (heap : List (Nat × Blk)) : Option Blk := match isMapKey s with
  | true => none
  | false => aget s heap
theorem cellsAt_some {s : Nat} {heap : List (Nat × Blk)} {b : Blk} (h : cellsAt s heap = some b) : isMapKey s = false ∧ aget s heap = some b := by
  unfold cellsAt at h
  cases hk : isMapKey s with
  | true => rw [hk] at h; cases h
  | false => rw [hk] at h; exact ⟨rfl, h⟩
theorem lend_nil {L : Nat → Option TI} {st : St} {j : Nat} {ts : List Nat} {κ : List AV → List (Option (List AV)) → List (Option (Nat × Nat × Nat)) → Ans} : lendX L st j [] ts κ = κ [] [] [] := rfl
theorem lend_easy {L : Nat → Option TI} {st : St} {j : Nat} {v v' : AV} {vs : List AV} {ts : List Nat} {κ : List AV → List (Option (List AV)) → List (Option (Nat × Nat × Nat)) → Ans} (h : easyV v = some v') :
    lendX L st j (v :: vs) ts κ = lendX L st (j + 1) vs (ts.drop 1) fun a b p => κ (v' :: a) (none :: b) (none :: p) := by
  cases v <;> simp only [easyV, Option.some.injEq, reduceCtorEq] at h <;> subst h <;> rfl
theorem lend_ref {L : Nat → Option TI} {env : List (Nat × AV)} {heap : List (Nat × Blk)} {next tag j s o n : Nat} {g : Nat × Nat} {cells c : List AV} {vs : List AV} {ts : List Nat} {κ : List AV → List (Option (List AV)) → List (Option (Nat × Nat × Nat)) → Ans}
    (hb : cellsAt s heap = some ⟨g, cells⟩) (hn : lendSize L (cells.length - o) ts.head? = some n) (hle : o + n ≤ cells.length) (hc : (cells.drop o).take n = c) :
    lendX L ⟨env, heap, next, tag⟩ j (.ref s g o :: vs) ts κ = lendX L ⟨env, heap, next, tag⟩ (j + 1) vs (ts.drop 1) fun a b p => κ (.ref j (tag + 1, 0) 0 :: a) (some c :: b) (some (s, o, n) :: p) := by
  obtain ⟨hk, hb⟩ := cellsAt_some hb
  simp only [lendX, blkX_eq, blkOf, hk, Bool.false_eq_true, if_false, hb, if_true, Option.bind_some, optX_eq, hn, chk, hle, takeX, hc]
theorem lend_msl {L : Nat → Option TI} {env : List (Nat × AV)} {heap : List (Nat × Blk)} {next tag j s z o n : Nat} {g : Nat × Nat} {cells c : List AV} {vs : List AV} {ts : List Nat} {κ : List AV → List (Option (List AV)) → List (Option (Nat × Nat × Nat)) → Ans}
    (hb : cellsAt s heap = some ⟨g, cells⟩) (hle : o + n * z ≤ cells.length) (hc : (cells.drop o).take (n * z) = c) :
    lendX L ⟨env, heap, next, tag⟩ j (.msl s g z o n :: vs) ts κ = lendX L ⟨env, heap, next, tag⟩ (j + 1) vs (ts.drop 1) fun a b p => κ (.isl z n c :: a) (none :: b) (none :: p) := by
  obtain ⟨hk, hb⟩ := cellsAt_some hb
  simp only [lendX, blkX_eq, blkOf, hk, Bool.false_eq_true, if_false, hb, if_true, Option.bind_some, chk, hle, takeX, hc]
theorem parts_nil {st : St} {κ : List (Nat × AV) → Ans} : partsX st [] κ = κ [] := rfl
theorem parts_cons {st : St} {i : Nat} {x : Operand} {l : List (Nat × Operand)} {v : AV} {κ : List (Nat × AV) → Ans} (h : ∀ κ', opX st x κ' = κ' v) : partsX st ((i, x) :: l) κ = partsX st l fun r => κ ((i, v) :: r) := h _
theorem opsl_nil {st : St} {κ : List AV → Ans} : opsX st [] κ = κ [] := rfl
theorem opsl_cons {st : St} {x : Operand} {l : List Operand} {v : AV} {κ : List AV → Ans} (h : ∀ κ', opX st x κ' = κ' v) : opsX st (x :: l) κ = opsX st l fun r => κ (v :: r) := h _
theorem setR_nil0 (cs : List AV) : setR cs 0 [] = cs := by simp [setR]
theorem setR_cons0 (c v : AV) (cs vs : List AV) : setR (c :: cs) 0 (v :: vs) = v :: setR cs 0 vs := by simp [setR, Nat.add_comm]
/-- Plain steps with rows. -/
theorem nfs : type_of% (And.intro @setR_nil0 <| And.intro @setR_cons0 <| And.intro @setR_succ <| And.intro @repl_int <| And.intro @repl_bool <| And.intro (@List.drop_succ_cons AV) <| And.intro (@List.drop_zero AV) <| And.intro (@List.drop_nil AV) <| And.intro (@List.cons_append AV) <| And.intro (@List.nil_append AV) <| And.intro (@List.append_nil AV) <| And.intro (@List.take_succ_cons AV) <| And.intro (@List.take_zero AV) <| And.intro (@List.take_nil AV) <| And.intro (@List.length_cons AV) <| And.intro (@List.length_nil AV) <| And.intro Nat.zero_add <| And.intro Nat.zero_mul <| And.intro Int.toNat_natCast Int.toNat_zero) :=
  And.intro @setR_nil0 <| And.intro @setR_cons0 <| And.intro @setR_succ <| And.intro @repl_int <| And.intro @repl_bool <| And.intro (@List.drop_succ_cons AV) <| And.intro (@List.drop_zero AV) <| And.intro (@List.drop_nil AV) <| And.intro (@List.cons_append AV) <| And.intro (@List.nil_append AV) <| And.intro (@List.append_nil AV) <| And.intro (@List.take_succ_cons AV) <| And.intro (@List.take_zero AV) <| And.intro (@List.take_nil AV) <| And.intro (@List.length_cons AV) <| And.intro (@List.length_nil AV) <| And.intro Nat.zero_add <| And.intro Nat.zero_mul <| And.intro Int.toNat_natCast Int.toNat_zero
/-! operations with many parts: one step -/
section
variable {L : Nat → Option TI} {K : Ann} {Γ : Oracle} {st : St} {d ty t : Nat} {κ : AV → St → Ans}
theorem op_build_s {i : TI} {fs : List (Nat × Nat)} {ps : List (Nat × Operand)} (hL : L t = some i) (hd : i.desc = .strct fs) :
    exOp L K Γ st d ty (.build t ps.toArray) κ = partsX st ps fun pv => normX i.zero fun z => fillX (plX L fs) z pv fun cs => κ (.agg cs) st := by
  simp only [exOp, tiX, hL, hd]
theorem op_build_a {i j : TI} {n e : Nat} {ps : List (Nat × Operand)} (hL : L t = some i) (hd : i.desc = .arr n e) (hj : L e = some j) :
    exOp L K Γ st d ty (.build t ps.toArray) κ = partsX st ps fun pv => normX i.zero fun z => fillX (fun k => some (k * j.size, j.size)) z pv fun cs => κ (.agg cs) st := by
  simp only [exOp, tiX, hL, hd, hj]
theorem op_buildSlice {i e : TI} {x n : Nat} {ps : List (Nat × Operand)} (hL : L t = some i) (hd : i.desc = .slice x) (hj : L x = some e) (hc : n * e.size ≤ 16777216 ∧ e.zero.length = e.size ∧ 0 < e.size) :
    exOp L K Γ st d ty (.buildSlice t n ps.toArray) κ = partsX st ps fun pv => normX (repl n e.zero) fun z => fillX (fun k => some (k * e.size, e.size)) z pv fun cs => newX st d cs fun g st' => κ (.msl d g e.size 0 n) st' := by
  simp only [exOp, selX, tiX, hL, hd, hj, chk, hc, if_true, and_self]
def callK (L : Nat → Option TI) (K : Ann) (Γ : Oracle) (st : St) (d g : Nat) (ts : List Nat) (κ : AV → St → Ans) (args : List AV) : Ans := match K.hp.contains d with
  | true => hX (aget d K.reads) Γ st d g args κ
  | false => match args.all (okRead (aget d K.reads)) with
    | true => match K.ro.contains d with
      | false => callX L (K.own.contains d) Γ st d g args ts κ
      | true => roX L Γ st g args ts κ
    | false => none
def lentK (own : Bool) (Γ : Oracle) (st : St) (d f : Nat) (args : List AV) (κ : AV → St → Ans) (a : List AV) (b : List (Option (List AV))) (p : List (Option (Nat × Nat × Nat))) : Ans := match lentApart p && readFree p args with
  | true => resX (Γ f (st.tag + 1) a b) fun v r => giveX st p r fun st' => adoptX own st' d v κ
  | false => none
theorem op_call {c : Call} {g : Nat} {args : List Operand} {ts : List Nat} (h1 : c.callee = .value (.func g)) (h2 : c.args.toList = args) (h3 : c.argTypes.toList = ts) :
    exOp L K Γ st d ty (.call c) κ = opsX st args (callK L K Γ st d g ts κ) := by
  simp only [exOp, h1, h2, h3, opX_eq, operand, joinX, List.append_nil]
  rfl
theorem op_builtin {c : Call} {b : Builtin} {args : List Operand} {ts : List Nat} (h1 : c.callee = .builtin b) (h2 : c.args.toList = args) (h3 : c.argTypes.toList = ts) :
    exOp L K Γ st d ty (.call c) κ = opsX st args (builtinK L K st d b ts κ) := by
  simp only [exOp, h1, h2, h3]
theorem op_alloc {e : Nat} {i : TI} {z : List AV} (hL : L e = some i) (hz : i.zero = z) :
    exOp L K Γ st d ty (.alloc e) κ = newX st d z fun g st' => κ (.ref d g 0) st' := by
  simp only [exOp, tiX, hL, normX, hz]
theorem call_k {g : Nat} {ts : List Nat} {args : List AV} (h : (!K.hp.contains d && (args.all (okRead (aget d K.reads)) && !K.ro.contains d)) = true) : callK L K Γ st d g ts κ args = lendX L st 0 args ts (lentK (K.own.contains d) Γ st d g args κ) := by
  simp only [Bool.and_eq_true, Bool.not_eq_true'] at h
  simp only [callK, h.1, h.2.1, h.2.2]
  rfl
def lentR (Γ : Oracle) (st : St) (f : Nat) (args : List AV) (κ : AV → St → Ans) (a : List AV) (b : List (Option (List AV))) (p : List (Option (Nat × Nat × Nat))) : Ans := match lentApart p && readFree p args with
  | true => resX (Γ f (st.tag + 1) a b) fun v r => match lentSame b r with
    | true => κ v st
    | false => none
  | false => none
theorem call_kro {g : Nat} {ts : List Nat} {args : List AV} (h : (!K.hp.contains d && (args.all (okRead (aget d K.reads)) && K.ro.contains d)) = true) : callK L K Γ st d g ts κ args = lendX L st 0 args ts (lentR Γ st g args κ) := by
  simp only [Bool.and_eq_true, Bool.not_eq_true'] at h
  simp only [callK, h.1, h.2.1, h.2.2]
  rfl
theorem call_kh {g : Nat} {ts : List Nat} {args : List AV} (h : K.hp.contains d = true) : callK L K Γ st d g ts κ args = hX (aget d K.reads) Γ st d g args κ := by
  simp only [callK, h]
/-- A call that takes the memory with it: what is handed over, what comes back, what is there then. -/
theorem h_call {rd : Option (List Nat)} {f tag next d : Nat} {env : List (Nat × AV)} {heap heap' : List (Nat × Blk)} {args args' : List AV} {pk bk : Pk} {l r : List (Option (List AV))} {v v' : AV} {κ : AV → St → Ans}
    (h1 : visit rd ⟨env, heap, next, tag⟩ (tag + 1, 0) 200 (rootsAt 0 args) [] = some pk) (h2 : pkOk pk = true) (h3 : packed ⟨env, heap, next, tag⟩ pk pk = some l) (h4 : args.map (ren pk) = args')
    (hc : Γ (f + 1000000000) (tag + 1) (.mapd [] [] :: args') l = some (v, r))
    (h5 : backPk ⟨env, heap, next, tag⟩ d (tag + 1) pk (rootKeys args') r = some bk) (h6 : ((bk.map (·.2.2.1)).all (okKey rd) && (pkOk bk && backOk ⟨env, heap, next, tag⟩ (rootKeys args') bk r)) = true)
    (h7 : backHeap bk bk r ++ heap.filter (fun p => !(pk.map (·.1)).contains p.1 && !(bk.map (·.2.2.1)).contains p.1) = heap') (h8 : ren bk v = v') :
    hX rd Γ ⟨env, heap, next, tag⟩ d f args κ = κ v' ⟨env, heap', next + 1, tag⟩ := by
  subst h4
  simp only [hX, hCall, h1, h2, h3, hc, h5, h6, h7, h8, Option.bind_eq_bind, Option.bind_some, if_true]
theorem fin_h {rs : List ResultVar} {e : Ex} {tag next : Nat} {env : List (Nat × AV)} {heap : List (Nat × Blk)} {args gs : List AV} {pk : Pk} {r : List (Option (List AV))} {v : AV} (he : e = .ret ∨ e = .normal)
    (h0 : getAll L ⟨env, heap, next, tag⟩ rs = some gs) (h1 : visit none ⟨env, heap, next, tag⟩ (tag, 0) 200 (rootsAt 0 args ++ rootsAt 400000 gs) [] = some pk)
    (h2 : (pkOk pk && (rootKeys args).all (fun k => look k (tag, 0) pk == some (k, (tag, 0)))) = true) (h3 : packed ⟨env, heap, next, tag⟩ pk pk = some r) (h4 : oneOrTup (gs.map (ren pk)) = v) :
    finH L rs tag args e ⟨env, heap, next, tag⟩ = some (v, r) := by
  rw [Bool.and_eq_true] at h2
  rcases he with rfl | rfl <;> simp only [finH, h0, h1, h2.1, h2.2, h3, h4, Option.bind_eq_bind, Option.bind_some, if_true, beq_self_eq_true, Bool.and_self]
theorem lent_r {f tag next : Nat} {env : List (Nat × AV)} {heap : List (Nat × Blk)} {args a : List AV} {b : List (Option (List AV))} {p : List (Option (Nat × Nat × Nat))} {v : AV} (h : (lentApart p && readFree p args) = true) (hr : Γ f (tag + 1) a b = some (v, b)) (hs : lentSame b b = true) :
    lentR Γ ⟨env, heap, next, tag⟩ f args κ a b p = κ v ⟨env, heap, next, tag⟩ := by
  simp only [lentR, h, hr, resX, hs]
theorem lent_k {own : Bool} {f tag next : Nat} {env : List (Nat × AV)} {heap : List (Nat × Blk)} {args a : List AV} {b : List (Option (List AV))} {p : List (Option (Nat × Nat × Nat))} {v : AV} {r : List (Option (List AV))} (h : (lentApart p && readFree p args) = true) (hr : Γ f (tag + 1) a b = some (v, r)) :
    lentK own Γ ⟨env, heap, next, tag⟩ d f args κ a b p = giveX ⟨env, heap, next, tag⟩ p r fun st' => adoptX own st' d v κ := by
  simp only [lentK, h, hr, resX]
theorem give_nil {κ : St → Ans} : giveX st [] [] κ = κ st := rfl
theorem give_none {κ : St → Ans} {l : List (Option (Nat × Nat × Nat))} {r : List (Option (List AV))} : giveX st (none :: l) (none :: r) κ = giveX st l r κ := rfl
theorem give_some {κ : St → Ans} {l : List (Option (Nat × Nat × Nat))} {r : List (Option (List AV))} {s o n tag next : Nat} {g : Nat × Nat} {env : List (Nat × AV)} {heap heap' : List (Nat × Blk)} {cells old c : List AV}
    (hb : aget s heap = some ⟨g, old⟩) (hn : cells.length = n) (hc : setR old o cells = c) (hp : ∀ κ', aputX s ⟨g, c⟩ heap κ' = κ' heap') :
    giveX ⟨env, heap, next, tag⟩ (some (s, o, n) :: l) (some cells :: r) κ = giveX ⟨env, heap', next, tag⟩ l r κ := by
  simp only [giveX, agetX_eq, hb, chk, hn, if_true, setX, hc, putCellsX, hp]
theorem adopt_no {v : AV} : adoptX false st d v κ = κ v st := rfl
theorem adopt_fsl {z n : Nat} {cells : List AV} : adoptX true st d (.fsl z n cells) κ = newX st d cells fun g st' => κ (.msl d g z 0 n) st' := rfl
end

theorem ex_skip : ex F .skip st κ = κ .normal st := rfl
theorem ex_ret : ex F .ret st κ = κ .ret st := rfl
theorem ex_exit {id : Nat} : ex F (.exit id) st κ = κ (.exit id) st := rfl
theorem ex_region {id : Nat} {ops : List Oper} {draw : Bool} : ex F (.region id ops.toArray draw) st κ = exOps F.L F.K F.Γ ops ops st (regK F ops κ) := by simp only [ex]
theorem ex_seq {a b : Code} : ex F (.seq a b) st κ = ex F a st (seqK (ex F b) κ) := rfl
theorem ex_block {id : Nat} {a : Code} : ex F (.block id a) st κ = ex F a st (blkK id κ) := rfl
theorem ex_loop {a : Code} : ex F (.loop a) st κ = loopX F a st κ := rfl
theorem ex_cond {c : Operand} {a b : Code} {x : Bool} (h : ∀ κ', opX st c κ' = κ' (.bool x)) : ex F (.cond c a b) st κ = brX x (ex F a st κ) (ex F b st κ) := h _
theorem k_seq {f : St → (Ex → St → Ans) → Ans} : seqK f κ .normal st = f st κ := rfl
theorem k_seq_ret {f : St → (Ex → St → Ans) → Ans} : seqK f κ .ret st = κ .ret st := rfl
theorem k_seq_exit {f : St → (Ex → St → Ans) → Ans} {j : Nat} : seqK f κ (.exit j) st = κ (.exit j) st := rfl
theorem k_blk {id : Nat} : blkK id κ .normal st = κ .normal st := rfl
theorem k_blk_ret {id : Nat} : blkK id κ .ret st = κ .ret st := rfl
theorem k_blk_here {id : Nat} : blkK id κ (.exit id) st = κ .normal st := by
  simp only [blkK]
  rcases beq_tf id id with ⟨h, _⟩ | ⟨_, h⟩
  · rw [h]
  · exact (h rfl).elim
theorem k_blk_exit {id j : Nat} (h : Nat.beq j id = false) : blkK id κ (.exit j) st = κ (.exit j) st := by simp only [blkK, h]
theorem br_split {x : Bool} {a b r : Ans} (h1 : x = true → a = r) (h2 : x = false → b = r) : brX x a b = r := by
  cases x
  · exact h2 rfl
  · exact h1 rfl
theorem br_decide {p : Prop} {_ : Decidable p} {a b r : Ans} (h1 : p → a = r) (h2 : ¬ p → b = r) : brX (decide p) a b = r :=
  br_split (fun h => h1 (of_decide_eq_true h)) (fun h => h2 (of_decide_eq_false h))
theorem br_not {x : Bool} {a b : Ans} : brX (!x) a b = brX x b a := by cases x <;> rfl
theorem fin_ret : finX F .ret st = getResX F.L st F.results fun gs => frAllX F.np F.frz st gs fun vs _ => outX st 0 F.lent fun r => endX vs r := rfl
theorem fin_normal : finX F .normal st = getResX F.L st F.results fun gs => frAllX F.np F.frz st gs fun vs _ => outX st 0 F.lent fun r => endX vs r := rfl
theorem head_eq {a : Code} {env env' : List (Nat × AV)} {heap heap' : List (Nat × Blk)} {next next' tag : Nat} (he : env = env') (hh : heap = heap') (hn : next = next') : headX F a ⟨env, heap, next, tag⟩ κ = headX F a ⟨env', heap', next', tag⟩ κ := by rw [he, hh, hn]
end

section
variable {L : Nat → Option TI} {K : Ann} {Γ : Oracle} {ops l : List Oper} {d : Nat} {op : Op} {ty : Nat} {pos : String} {after : Array Edge} {st : St} {κ : St → Ans} {v : AV} {r : Ans}
  {env env1 env2 env' : List (Nat × AV)} {heap heap' : List (Nat × Blk)} {next next' tag tag' : Nat}

theorem ops_cons (hn : Nat.blt d K.nt = true) (h : ∀ κ' : AV → St → Ans, exOp L K Γ st d ty op κ' = κ' v ⟨env1, heap', next', tag'⟩) (hp : ∀ κ', aputX d v env1 κ' = κ' env') :
    exOps L K Γ ops (⟨some d, op, ty, pos, after, none⟩ :: l) st κ = exOps L K Γ ops l ⟨env', heap', next', tag'⟩ κ := by
  simp only [exOps, Option.getD_some, hn, h, putX, hp]
theorem ops_cons0 (hn : Nat.blt 0 K.nt = true) (h : ∀ κ' : AV → St → Ans, exOp L K Γ st 0 ty op κ' = κ' v ⟨env', heap', next', tag'⟩) :
    exOps L K Γ ops (⟨none, op, ty, pos, after, none⟩ :: l) st κ = exOps L K Γ ops l ⟨env', heap', next', tag'⟩ κ := by
  simp only [exOps, Option.getD_none, hn, h, putX]
theorem ops_run {dd : Option Nat} {j d0 : Nat} {want : Bool} (hg : (ops[j]?).bind (·.dst) = some d0) (hv : aget d0 env = some (.bool want)) :
    exOps L K Γ ops (⟨dd, op, ty, pos, after, some (j, want)⟩ :: l) ⟨env, heap, next, tag⟩ κ = exOps L K Γ ops (⟨dd, op, ty, pos, after, none⟩ :: l) ⟨env, heap, next, tag⟩ κ := by
  simp only [exOps, hg, agetX_eq, hv]
  have hput : aput d0 (.bool want) env = env := aput_same hv
  cases want <;> simp only [brX, aputX_eq, hput]
theorem ops_skip {dd : Option Nat} {j d0 : Nat} {want : Bool} (hg : (ops[j]?).bind (·.dst) = some d0) (hv : aget d0 env = some (.bool (!want))) (hn : Nat.blt (dd.getD 0) K.nt = true)
    (hp : ∀ κ', putX ⟨env, heap, next, tag⟩ dd (.tup []) κ' = κ' ⟨env', heap, next, tag⟩) :
    exOps L K Γ ops (⟨dd, op, ty, pos, after, some (j, want)⟩ :: l) ⟨env, heap, next, tag⟩ κ = exOps L K Γ ops l ⟨env', heap, next, tag⟩ κ := by
  simp only [exOps, hg, agetX_eq, hv, hn]
  have hput : aput d0 (.bool (!want)) env = env := aput_same hv
  cases want <;> simp only [brX, aputX_eq, hput, Bool.not_true, Bool.not_false, hp] <;> simp only [Bool.not_true, Bool.not_false] at hput <;> rw [hput, hp]
theorem ops_skipT {dd : Option Nat} {j d0 : Nat} {want : Bool} (hg : (ops[j]?).bind (·.dst) = some d0) (hv : aget d0 env = some (.tup [])) (hn : Nat.blt (dd.getD 0) K.nt = true)
    (hp : ∀ κ', putX ⟨env, heap, next, tag⟩ dd (.tup []) κ' = κ' ⟨env', heap, next, tag⟩) :
    exOps L K Γ ops (⟨dd, op, ty, pos, after, some (j, want)⟩ :: l) ⟨env, heap, next, tag⟩ κ = exOps L K Γ ops l ⟨env', heap, next, tag⟩ κ := by
  simp only [exOps, hg, agetX_eq, hv, hn, hp]
open Classical in
theorem aputX_inv {k : Nat} {v : AV} {l l' : List (Nat × AV)} (h : ∀ κ' : List (Nat × AV) → Ans, aputX k v l κ' = κ' l') : aput k v l = l' := by
  have := h fun e => if e = l' then some (.junk, []) else none
  rw [aputX_eq, if_pos rfl] at this
  by_cases h' : aput k v l = l'
  · exact h'
  · rw [if_neg h'] at this; cases this
/-- A guard that isn't known: both ways; what it is stands in its slot then. -/
theorem ops_split {dd : Option Nat} {j d0 : Nat} {want b : Bool} (hg : (ops[j]?).bind (·.dst) = some d0) (hv : aget d0 env = some (.bool b))
    (hp1 : ∀ κ', aputX d0 (.bool true) env κ' = κ' env1) (hp2 : ∀ κ', aputX d0 (.bool false) env κ' = κ' env2)
    (h1 : b = true → exOps L K Γ ops (⟨dd, op, ty, pos, after, some (j, want)⟩ :: l) ⟨env1, heap, next, tag⟩ κ = r)
    (h2 : b = false → exOps L K Γ ops (⟨dd, op, ty, pos, after, some (j, want)⟩ :: l) ⟨env2, heap, next, tag⟩ κ = r) :
    exOps L K Γ ops (⟨dd, op, ty, pos, after, some (j, want)⟩ :: l) ⟨env, heap, next, tag⟩ κ = r := by
  cases b
  · have e : env2 = env := (aputX_inv hp2).symm.trans (aput_same hv)
    rw [← h2 rfl, e]
  · have e : env1 = env := (aputX_inv hp1).symm.trans (aput_same hv)
    rw [← h1 rfl, e]
/-- A guard that is known. -/
theorem ops_known {dd : Option Nat} {j d0 : Nat} {want b x : Bool} (hg : (ops[j]?).bind (·.dst) = some d0) (hv : aget d0 env = some (.bool b)) (hb : b = x)
    (hp : ∀ κ', aputX d0 (.bool x) env κ' = κ' env1) :
    exOps L K Γ ops (⟨dd, op, ty, pos, after, some (j, want)⟩ :: l) ⟨env, heap, next, tag⟩ κ = exOps L K Γ ops (⟨dd, op, ty, pos, after, some (j, want)⟩ :: l) ⟨env1, heap, next, tag⟩ κ := by
  subst hb
  have e : env1 = env := (aputX_inv hp).symm.trans (aput_same hv)
  rw [e]
theorem ops_nil {F : Fx} {κ : Ex → St → Ans} {opl : List Oper} (h : ∀ κ', tidyX F.K.cross opl st κ' = κ' ⟨env', heap', next', tag'⟩) : exOps L K Γ ops [] st (regK F opl κ) = κ .normal ⟨env', heap', next', tag'⟩ := h _
theorem loop_head {F : Fx} {a : Code} {κ : Ex → St → Ans} (h : ∀ κ', trimX (F.K.heads.find? (·.1 == firstRegion a)) st κ' = κ' ⟨env', heap', next', tag'⟩) : loopX F a st κ = headX F a ⟨env', heap', next', tag'⟩ κ := by
  rw [loopX_head, h]
end

end Go.Sim
