/-
  No cell of these rows narrows 'for every input' (looked for: loops, veiled, ifaces, maps, wideKeys, modest, calm, conditions, laid).
  DERIVED. THE GIVEN ROWS OF THIS SEAT. 4 by the template 'for every input the law returns true; each argument reads behind the call as it read before'; 0 by the template 'total and deterministic' (their statements: YtifahndnjihfoaaTotals.lean).
  GIVEN WITH THE SEED: the statements are not yours to turn. If you find one false, say at which input.
  Laid BY PROGRAM, IN A SANDBOX (cutbox-rows.mjs): the forced cells as the released guide's own fill.sh prints them over the translation 42064551d9e5dc70… (all of the seat's roots in one cut). By AI agents, Wed Nov 11 2026. No macro, syntax, notation, axiom, sorry.
-/
import Derived.Test.YtifahndnjihfoaaChecked
import GoSem.Claim
import GoSem.ClaimJoined
import GoSem.ClaimMapViews
import Derived.JoinedTies
import Derived.KernelRfl
namespace Go.Proofs.Ytifahndnjihfoaa
/- THE CELL 'sum', in the pinned program and in every row, IS THE sha256 OF THE DUMP (.gsa) THAT YtifahndnjihfoaaProg.lean LOADS. Nothing in Lean hashes anything: it is a label: what it is worth is what the hold of that sum in a sandbox is worth. -/
noncomputable def Try.pinned : Pinned := { name := "ytifahndnjihfoaa", sum := "42064551d9e5dc70e659ca19870d72386a4c0069f5a61cda12c0486432228514", checked := Try.checked }
namespace Rows
def none {H : Type} : Left H := { results := [], args := [] }

/-- 'ceefaxlaw1.ParityTurns': WHATEVER THE INPUT: true; the input reads as it did. -/
def parityTurnsSpec : ChangeSpec := { name := "parityTurns", fn := fun _ => fun
  | [d1, d2] => { results := [.lit (.bool true)], args := [d1, d2] }
  | _ => none }
def parityTurnsRow : OpenClaim := { program := "ytifahndnjihfoaa", sum := "42064551d9e5dc70e659ca19870d72386a4c0069f5a61cda12c0486432228514", func := "ceefax/ceefaxlaw1.ParityTurns", spec := "parityTurns", apart := false }
def ParityTurnsSaid : Prop := parityTurnsRow.holds Try.pinned (OpenSpec.ofChange parityTurnsSpec)

/-- ITS FALSE NEIGHBOUR: 'it returns false'. Refute it at one input. -/
def parityTurnsWrong : ChangeSpec := { name := "parityTurns", fn := fun _ => fun
  | [d1, d2] => { results := [.lit (.bool false)], args := [d1, d2] }
  | _ => none }
def ParityTurnsWrongFalsely : Prop := parityTurnsRow.holds Try.pinned (OpenSpec.ofChange parityTurnsWrong)

/-- 'ceefaxlaw1.ParityFlips': WHATEVER THE INPUT: true; the input reads as it did. -/
def parityFlipsSpec : ChangeSpec := { name := "parityFlips", fn := fun _ => fun
  | [d1, d2, d3] => { results := [.lit (.bool true)], args := [d1, d2, d3] }
  | _ => none }
def parityFlipsRow : OpenClaim := { program := "ytifahndnjihfoaa", sum := "42064551d9e5dc70e659ca19870d72386a4c0069f5a61cda12c0486432228514", func := "ceefax/ceefaxlaw1.ParityFlips", spec := "parityFlips", apart := false }
def ParityFlipsSaid : Prop := parityFlipsRow.holds Try.pinned (OpenSpec.ofChange parityFlipsSpec)

/-- ITS FALSE NEIGHBOUR: 'it returns false'. Refute it at one input. -/
def parityFlipsWrong : ChangeSpec := { name := "parityFlips", fn := fun _ => fun
  | [d1, d2, d3] => { results := [.lit (.bool false)], args := [d1, d2, d3] }
  | _ => none }
def ParityFlipsWrongFalsely : Prop := parityFlipsRow.holds Try.pinned (OpenSpec.ofChange parityFlipsWrong)

/-- 'ceefaxlaw1.ParityTexts': WHATEVER THE INPUT: true; the input reads as it did. -/
def parityTextsSpec : ChangeSpec := { name := "parityTexts", fn := fun _ => fun
  | [d1, d2] => { results := [.lit (.bool true)], args := [d1, d2] }
  | _ => none }
def parityTextsRow : OpenClaim := { program := "ytifahndnjihfoaa", sum := "42064551d9e5dc70e659ca19870d72386a4c0069f5a61cda12c0486432228514", func := "ceefax/ceefaxlaw1.ParityTexts", spec := "parityTexts", apart := false }
def ParityTextsSaid : Prop := parityTextsRow.holds Try.pinned (OpenSpec.ofChange parityTextsSpec)

/-- ITS FALSE NEIGHBOUR: 'it returns false'. Refute it at one input. -/
def parityTextsWrong : ChangeSpec := { name := "parityTexts", fn := fun _ => fun
  | [d1, d2] => { results := [.lit (.bool false)], args := [d1, d2] }
  | _ => none }
def ParityTextsWrongFalsely : Prop := parityTextsRow.holds Try.pinned (OpenSpec.ofChange parityTextsWrong)

/-- 'ceefaxlaw1.ParitySays': WHATEVER THE INPUT: true; the input reads as it did. -/
def paritySaysSpec : ChangeSpec := { name := "paritySays", fn := fun _ => fun
  | [d1, d2] => { results := [.lit (.bool true)], args := [d1, d2] }
  | _ => none }
def paritySaysRow : OpenClaim := { program := "ytifahndnjihfoaa", sum := "42064551d9e5dc70e659ca19870d72386a4c0069f5a61cda12c0486432228514", func := "ceefax/ceefaxlaw1.ParitySays", spec := "paritySays", apart := false }
def ParitySaysSaid : Prop := paritySaysRow.holds Try.pinned (OpenSpec.ofChange paritySaysSpec)

/-- ITS FALSE NEIGHBOUR: 'it returns false'. Refute it at one input. -/
def paritySaysWrong : ChangeSpec := { name := "paritySays", fn := fun _ => fun
  | [d1, d2] => { results := [.lit (.bool false)], args := [d1, d2] }
  | _ => none }
def ParitySaysWrongFalsely : Prop := paritySaysRow.holds Try.pinned (OpenSpec.ofChange paritySaysWrong)

/- THE SECOND FORM. 'bulk': how many values and letters a reading holds, each counted each time it is reached (what is shared counts as often as it is met; a slice's spare places count too). A statement '..UptoSaid' is the law's where the arguments, and the package variables that the reading takes, are together of bulk at most 1048576: NARROWER than '..Said'. Prove '..Said' where nothing that the law and all that it calls make is longer than what came in: it says more and counts as full. Else prove '..UptoSaid'. A law counts once. -/
mutual
def uptoBulk {H : Type} : DataW H → Nat
  | .lit (.string bytes) => bytes.length + 1
  | .lit _ => 1
  | .nil => 1
  | .ptr d => uptoBulk d + 1
  | .slice elems spare => uptoBulkAll elems + uptoBulkAll spare + 1
  | .agg parts => uptoBulkAll parts + 1
  | .iface _ d => uptoBulk d + 1
  | .map entries => uptoBulkEntries entries + 1
  | .held _ => 1
def uptoBulkAll {H : Type} : List (DataW H) → Nat
  | [] => 0
  | d :: r => uptoBulk d + uptoBulkAll r
def uptoBulkEntries {H : Type} : List (Lit × DataW H) → Nat
  | [] => 0
  | x :: r => uptoBulkEntry x + uptoBulkEntries r
def uptoBulkEntry {H : Type} : Lit × DataW H → Nat
  | (.string bytes, d) => bytes.length + uptoBulk d + 1
  | (_, d) => uptoBulk d + 1
 end
def uptoSmall : (H : Type) → List (DataW H) → Bool := fun _ ds => decide (uptoBulkAll ds ≤ 1048576)
def OpenSpec.upto (s : _root_.Go.ChangeSpec) : _root_.Go.OpenSpec := { _root_.Go.OpenSpec.ofChange s with cond := some uptoSmall }

/-- 'ceefaxlaw1.ParityTurns', WHERE WHAT IT READS IS OF BULK AT MOST 1048576: true; the input reads as it did. -/
def parityTurnsUptoRow : OpenClaim := { program := "ytifahndnjihfoaa", sum := "42064551d9e5dc70e659ca19870d72386a4c0069f5a61cda12c0486432228514", func := "ceefax/ceefaxlaw1.ParityTurns", spec := "parityTurns", apart := false, narrowed := true }
def ParityTurnsUptoSaid : Prop := parityTurnsUptoRow.holds Try.pinned (OpenSpec.upto parityTurnsSpec)

/-- 'ceefaxlaw1.ParityFlips', WHERE WHAT IT READS IS OF BULK AT MOST 1048576: true; the input reads as it did. -/
def parityFlipsUptoRow : OpenClaim := { program := "ytifahndnjihfoaa", sum := "42064551d9e5dc70e659ca19870d72386a4c0069f5a61cda12c0486432228514", func := "ceefax/ceefaxlaw1.ParityFlips", spec := "parityFlips", apart := false, narrowed := true }
def ParityFlipsUptoSaid : Prop := parityFlipsUptoRow.holds Try.pinned (OpenSpec.upto parityFlipsSpec)

/-- 'ceefaxlaw1.ParityTexts', WHERE WHAT IT READS IS OF BULK AT MOST 1048576: true; the input reads as it did. -/
def parityTextsUptoRow : OpenClaim := { program := "ytifahndnjihfoaa", sum := "42064551d9e5dc70e659ca19870d72386a4c0069f5a61cda12c0486432228514", func := "ceefax/ceefaxlaw1.ParityTexts", spec := "parityTexts", apart := false, narrowed := true }
def ParityTextsUptoSaid : Prop := parityTextsUptoRow.holds Try.pinned (OpenSpec.upto parityTextsSpec)

/-- 'ceefaxlaw1.ParitySays', WHERE WHAT IT READS IS OF BULK AT MOST 1048576: true; the input reads as it did. -/
def paritySaysUptoRow : OpenClaim := { program := "ytifahndnjihfoaa", sum := "42064551d9e5dc70e659ca19870d72386a4c0069f5a61cda12c0486432228514", func := "ceefax/ceefaxlaw1.ParitySays", spec := "paritySays", apart := false, narrowed := true }
def ParitySaysUptoSaid : Prop := paritySaysUptoRow.holds Try.pinned (OpenSpec.upto paritySaysSpec)

end Rows
end Go.Proofs.Ytifahndnjihfoaa
