/-
  No cell of these rows narrows 'for every input' (looked for: loops, veiled, ifaces, maps, wideKeys, modest, calm, conditions, laid).
  DERIVED. THE GIVEN ROWS OF THIS SEAT. 4 by the template 'for every input the law returns true; each argument reads behind the call as it read before'; 0 by the template 'total and deterministic' (their statements: YthmepfidhlgemaaTotals.lean).
  GIVEN WITH THE SEED: the statements are not yours to turn. If you find one false, say at which input.
  Laid BY PROGRAM, IN A SANDBOX (cutbox-rows.mjs): the forced cells as the released guide's own fill.sh prints them over the translation bd8e93f67266bf21… (all of the seat's roots in one cut). By AI agents, Wed Nov 11 2026. No macro, syntax, notation, axiom, sorry.
-/
import Derived.Test.YthmepfidhlgemaaChecked
import GoSem.Claim
import GoSem.ClaimJoined
import GoSem.ClaimMapViews
import Derived.JoinedTies
import Derived.KernelRfl
namespace Go.Proofs.Ythmepfidhlgemaa
/- THE CELL 'sum', in the pinned program and in every row, IS THE sha256 OF THE DUMP (.gsa) THAT YthmepfidhlgemaaProg.lean LOADS. Nothing in Lean hashes anything: it is a label: what it is worth is what the hold of that sum in a sandbox is worth. -/
noncomputable def Try.pinned : Pinned := { name := "ythmepfidhlgemaa", sum := "bd8e93f67266bf213eb8c387b86c15d07bb16708850dfd743a30e76a60cf3149", checked := Try.checked }
namespace Rows
def none {H : Type} : Left H := { results := [], args := [] }

/-- 'ceefaxlaw24.MatrixOne': WHATEVER THE INPUT: true; the input reads as it did. -/
def matrixOneSpec : ChangeSpec := { name := "matrixOne", fn := fun _ => fun
  | [d1, d2, d3, d4] => { results := [.lit (.bool true)], args := [d1, d2, d3, d4] }
  | _ => none }
def matrixOneRow : OpenClaim := { program := "ythmepfidhlgemaa", sum := "bd8e93f67266bf213eb8c387b86c15d07bb16708850dfd743a30e76a60cf3149", func := "ceefax/ceefaxlaw24.MatrixOne", spec := "matrixOne", apart := false }
def MatrixOneSaid : Prop := matrixOneRow.holds Try.pinned (OpenSpec.ofChange matrixOneSpec)

/-- ITS FALSE NEIGHBOUR: 'it returns false'. Refute it at one input. -/
def matrixOneWrong : ChangeSpec := { name := "matrixOne", fn := fun _ => fun
  | [d1, d2, d3, d4] => { results := [.lit (.bool false)], args := [d1, d2, d3, d4] }
  | _ => none }
def MatrixOneWrongFalsely : Prop := matrixOneRow.holds Try.pinned (OpenSpec.ofChange matrixOneWrong)

/-- 'ceefaxlaw24.MatrixCodes': WHATEVER THE INPUT: true; the input reads as it did. -/
def matrixCodesSpec : ChangeSpec := { name := "matrixCodes", fn := fun _ => fun
  | [d1, d2] => { results := [.lit (.bool true)], args := [d1, d2] }
  | _ => none }
def matrixCodesRow : OpenClaim := { program := "ythmepfidhlgemaa", sum := "bd8e93f67266bf213eb8c387b86c15d07bb16708850dfd743a30e76a60cf3149", func := "ceefax/ceefaxlaw24.MatrixCodes", spec := "matrixCodes", apart := false }
def MatrixCodesSaid : Prop := matrixCodesRow.holds Try.pinned (OpenSpec.ofChange matrixCodesSpec)

/-- ITS FALSE NEIGHBOUR: 'it returns false'. Refute it at one input. -/
def matrixCodesWrong : ChangeSpec := { name := "matrixCodes", fn := fun _ => fun
  | [d1, d2] => { results := [.lit (.bool false)], args := [d1, d2] }
  | _ => none }
def MatrixCodesWrongFalsely : Prop := matrixCodesRow.holds Try.pinned (OpenSpec.ofChange matrixCodesWrong)

/-- 'ceefaxlaw24.MatrixPlays': WHATEVER THE INPUT: true; the input reads as it did. -/
def matrixPlaysSpec : ChangeSpec := { name := "matrixPlays", fn := fun _ => fun
  | [d1, d2, d3, d4, d5] => { results := [.lit (.bool true)], args := [d1, d2, d3, d4, d5] }
  | _ => none }
def matrixPlaysRow : OpenClaim := { program := "ythmepfidhlgemaa", sum := "bd8e93f67266bf213eb8c387b86c15d07bb16708850dfd743a30e76a60cf3149", func := "ceefax/ceefaxlaw24.MatrixPlays", spec := "matrixPlays", apart := false }
def MatrixPlaysSaid : Prop := matrixPlaysRow.holds Try.pinned (OpenSpec.ofChange matrixPlaysSpec)

/-- ITS FALSE NEIGHBOUR: 'it returns false'. Refute it at one input. -/
def matrixPlaysWrong : ChangeSpec := { name := "matrixPlays", fn := fun _ => fun
  | [d1, d2, d3, d4, d5] => { results := [.lit (.bool false)], args := [d1, d2, d3, d4, d5] }
  | _ => none }
def MatrixPlaysWrongFalsely : Prop := matrixPlaysRow.holds Try.pinned (OpenSpec.ofChange matrixPlaysWrong)

/-- 'ceefaxlaw24.MatrixStatus': WHATEVER THE INPUT: true; the input reads as it did. -/
def matrixStatusSpec : ChangeSpec := { name := "matrixStatus", fn := fun _ => fun
  | [d1, d2] => { results := [.lit (.bool true)], args := [d1, d2] }
  | _ => none }
def matrixStatusRow : OpenClaim := { program := "ythmepfidhlgemaa", sum := "bd8e93f67266bf213eb8c387b86c15d07bb16708850dfd743a30e76a60cf3149", func := "ceefax/ceefaxlaw24.MatrixStatus", spec := "matrixStatus", apart := false }
def MatrixStatusSaid : Prop := matrixStatusRow.holds Try.pinned (OpenSpec.ofChange matrixStatusSpec)

/-- ITS FALSE NEIGHBOUR: 'it returns false'. Refute it at one input. -/
def matrixStatusWrong : ChangeSpec := { name := "matrixStatus", fn := fun _ => fun
  | [d1, d2] => { results := [.lit (.bool false)], args := [d1, d2] }
  | _ => none }
def MatrixStatusWrongFalsely : Prop := matrixStatusRow.holds Try.pinned (OpenSpec.ofChange matrixStatusWrong)

/- THE SECOND FORM. 'bulk': how many values and letters a reading holds, each counted each time it is reached (what is shared counts as often as it is met; a slice's spare places count too). A statement '..UptoSaid' is the law's where the arguments, and the package variables that the reading takes, are together of bulk at most 1048576: NARROWER than '..Said'. Prove '..Said' where nothing that the law and all that it calls make is longer than what came in: it says more and counts as full. Else prove '..UptoSaid'. A law counts once. -/
mutual
def uptoBulk {H : Type} : DataW H → Nat
  | .lit (.string bytes) => bytes.length + 1
  | .lit _ => 1
  | .nil => 1
  | .ptr d => uptoBulk d + 1
  | .slice elems spare => uptoBulkAll elems + uptoBulkAll spare + 1
  | .agg parts => uptoBulkAll parts + 1
  | .iface _ d => uptoBulk d + 1
  | .map entries => uptoBulkEntries entries + 1
  | .held _ => 1
def uptoBulkAll {H : Type} : List (DataW H) → Nat
  | [] => 0
  | d :: r => uptoBulk d + uptoBulkAll r
def uptoBulkEntries {H : Type} : List (Lit × DataW H) → Nat
  | [] => 0
  | x :: r => uptoBulkEntry x + uptoBulkEntries r
def uptoBulkEntry {H : Type} : Lit × DataW H → Nat
  | (.string bytes, d) => bytes.length + uptoBulk d + 1
  | (_, d) => uptoBulk d + 1
 end
def uptoSmall : (H : Type) → List (DataW H) → Bool := fun _ ds => decide (uptoBulkAll ds ≤ 1048576)
def OpenSpec.upto (s : _root_.Go.ChangeSpec) : _root_.Go.OpenSpec := { _root_.Go.OpenSpec.ofChange s with cond := some uptoSmall }

/-- 'ceefaxlaw24.MatrixOne', WHERE WHAT IT READS IS OF BULK AT MOST 1048576: true; the input reads as it did. -/
def matrixOneUptoRow : OpenClaim := { program := "ythmepfidhlgemaa", sum := "bd8e93f67266bf213eb8c387b86c15d07bb16708850dfd743a30e76a60cf3149", func := "ceefax/ceefaxlaw24.MatrixOne", spec := "matrixOne", apart := false, narrowed := true }
def MatrixOneUptoSaid : Prop := matrixOneUptoRow.holds Try.pinned (OpenSpec.upto matrixOneSpec)

/-- 'ceefaxlaw24.MatrixCodes', WHERE WHAT IT READS IS OF BULK AT MOST 1048576: true; the input reads as it did. -/
def matrixCodesUptoRow : OpenClaim := { program := "ythmepfidhlgemaa", sum := "bd8e93f67266bf213eb8c387b86c15d07bb16708850dfd743a30e76a60cf3149", func := "ceefax/ceefaxlaw24.MatrixCodes", spec := "matrixCodes", apart := false, narrowed := true }
def MatrixCodesUptoSaid : Prop := matrixCodesUptoRow.holds Try.pinned (OpenSpec.upto matrixCodesSpec)

/-- 'ceefaxlaw24.MatrixPlays', WHERE WHAT IT READS IS OF BULK AT MOST 1048576: true; the input reads as it did. -/
def matrixPlaysUptoRow : OpenClaim := { program := "ythmepfidhlgemaa", sum := "bd8e93f67266bf213eb8c387b86c15d07bb16708850dfd743a30e76a60cf3149", func := "ceefax/ceefaxlaw24.MatrixPlays", spec := "matrixPlays", apart := false, narrowed := true }
def MatrixPlaysUptoSaid : Prop := matrixPlaysUptoRow.holds Try.pinned (OpenSpec.upto matrixPlaysSpec)

/-- 'ceefaxlaw24.MatrixStatus', WHERE WHAT IT READS IS OF BULK AT MOST 1048576: true; the input reads as it did. -/
def matrixStatusUptoRow : OpenClaim := { program := "ythmepfidhlgemaa", sum := "bd8e93f67266bf213eb8c387b86c15d07bb16708850dfd743a30e76a60cf3149", func := "ceefax/ceefaxlaw24.MatrixStatus", spec := "matrixStatus", apart := false, narrowed := true }
def MatrixStatusUptoSaid : Prop := matrixStatusUptoRow.holds Try.pinned (OpenSpec.upto matrixStatusSpec)

end Rows
end Go.Proofs.Ythmepfidhlgemaa
