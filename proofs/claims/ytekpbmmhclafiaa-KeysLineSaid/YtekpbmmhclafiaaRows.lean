/-
  No cell of these rows narrows 'for every input' (looked for: loops, veiled, ifaces, maps, wideKeys, modest, calm, conditions, laid).
  DERIVED. THE GIVEN ROWS OF THIS SEAT. 4 by the template 'for every input the law returns true; each argument reads behind the call as it read before'; 0 by the template 'total and deterministic' (their statements: YtekpbmmhclafiaaTotals.lean).
  GIVEN WITH THE SEED: the statements are not yours to turn. If you find one false, say at which input.
  Laid BY PROGRAM, IN A SANDBOX (cutbox-rows.mjs): the forced cells as the released guide's own fill.sh prints them over the translation 496800785cbd0927… (all of the seat's roots in one cut). By AI agents, Wed Nov 11 2026. No macro, syntax, notation, axiom, sorry.
-/
import Derived.Test.YtekpbmmhclafiaaChecked
import GoSem.Claim
import GoSem.ClaimJoined
import GoSem.ClaimMapViews
import Derived.JoinedTies
import Derived.KernelRfl
namespace Go.Proofs.Ytekpbmmhclafiaa
/- THE CELL 'sum', in the pinned program and in every row, IS THE sha256 OF THE DUMP (.gsa) THAT YtekpbmmhclafiaaProg.lean LOADS. Nothing in Lean hashes anything: it is a label: what it is worth is what the hold of that sum in a sandbox is worth. -/
noncomputable def Try.pinned : Pinned := { name := "ytekpbmmhclafiaa", sum := "496800785cbd09278d660c7e27e8afe0247bc89c3e90c5cdd1417ec7d15c290f", checked := Try.checked }
namespace Rows
def none {H : Type} : Left H := { results := [], args := [] }

/-- 'ceefaxlaw26.KeysModes': WHATEVER THE INPUT: true; the input reads as it did. -/
def keysModesSpec : ChangeSpec := { name := "keysModes", fn := fun _ => fun
  | [d1, d2, d3, d4, d5] => { results := [.lit (.bool true)], args := [d1, d2, d3, d4, d5] }
  | _ => none }
def keysModesRow : OpenClaim := { program := "ytekpbmmhclafiaa", sum := "496800785cbd09278d660c7e27e8afe0247bc89c3e90c5cdd1417ec7d15c290f", func := "ceefax/ceefaxlaw26.KeysModes", spec := "keysModes", apart := false }
def KeysModesSaid : Prop := keysModesRow.holds Try.pinned (OpenSpec.ofChange keysModesSpec)

/-- ITS FALSE NEIGHBOUR: 'it returns false'. Refute it at one input. -/
def keysModesWrong : ChangeSpec := { name := "keysModes", fn := fun _ => fun
  | [d1, d2, d3, d4, d5] => { results := [.lit (.bool false)], args := [d1, d2, d3, d4, d5] }
  | _ => none }
def KeysModesWrongFalsely : Prop := keysModesRow.holds Try.pinned (OpenSpec.ofChange keysModesWrong)

/-- 'ceefaxlaw26.KeysSay': WHATEVER THE INPUT: true; the input reads as it did. -/
def keysSaySpec : ChangeSpec := { name := "keysSay", fn := fun _ => fun
  | [d1, d2, d3, d4, d5] => { results := [.lit (.bool true)], args := [d1, d2, d3, d4, d5] }
  | _ => none }
def keysSayRow : OpenClaim := { program := "ytekpbmmhclafiaa", sum := "496800785cbd09278d660c7e27e8afe0247bc89c3e90c5cdd1417ec7d15c290f", func := "ceefax/ceefaxlaw26.KeysSay", spec := "keysSay", apart := false }
def KeysSaySaid : Prop := keysSayRow.holds Try.pinned (OpenSpec.ofChange keysSaySpec)

/-- ITS FALSE NEIGHBOUR: 'it returns false'. Refute it at one input. -/
def keysSayWrong : ChangeSpec := { name := "keysSay", fn := fun _ => fun
  | [d1, d2, d3, d4, d5] => { results := [.lit (.bool false)], args := [d1, d2, d3, d4, d5] }
  | _ => none }
def KeysSayWrongFalsely : Prop := keysSayRow.holds Try.pinned (OpenSpec.ofChange keysSayWrong)

/-- 'ceefaxlaw26.KeysLetters': WHATEVER THE INPUT: true; the input reads as it did. -/
def keysLettersSpec : ChangeSpec := { name := "keysLetters", fn := fun _ => fun
  | [d1, d2, d3, d4] => { results := [.lit (.bool true)], args := [d1, d2, d3, d4] }
  | _ => none }
def keysLettersRow : OpenClaim := { program := "ytekpbmmhclafiaa", sum := "496800785cbd09278d660c7e27e8afe0247bc89c3e90c5cdd1417ec7d15c290f", func := "ceefax/ceefaxlaw26.KeysLetters", spec := "keysLetters", apart := false }
def KeysLettersSaid : Prop := keysLettersRow.holds Try.pinned (OpenSpec.ofChange keysLettersSpec)

/-- ITS FALSE NEIGHBOUR: 'it returns false'. Refute it at one input. -/
def keysLettersWrong : ChangeSpec := { name := "keysLetters", fn := fun _ => fun
  | [d1, d2, d3, d4] => { results := [.lit (.bool false)], args := [d1, d2, d3, d4] }
  | _ => none }
def KeysLettersWrongFalsely : Prop := keysLettersRow.holds Try.pinned (OpenSpec.ofChange keysLettersWrong)

/-- 'ceefaxlaw26.KeysLine': WHATEVER THE INPUT: true; the input reads as it did. -/
def keysLineSpec : ChangeSpec := { name := "keysLine", fn := fun _ => fun
  | [d1, d2, d3, d4, d5] => { results := [.lit (.bool true)], args := [d1, d2, d3, d4, d5] }
  | _ => none }
def keysLineRow : OpenClaim := { program := "ytekpbmmhclafiaa", sum := "496800785cbd09278d660c7e27e8afe0247bc89c3e90c5cdd1417ec7d15c290f", func := "ceefax/ceefaxlaw26.KeysLine", spec := "keysLine", apart := false }
def KeysLineSaid : Prop := keysLineRow.holds Try.pinned (OpenSpec.ofChange keysLineSpec)

/-- ITS FALSE NEIGHBOUR: 'it returns false'. Refute it at one input. -/
def keysLineWrong : ChangeSpec := { name := "keysLine", fn := fun _ => fun
  | [d1, d2, d3, d4, d5] => { results := [.lit (.bool false)], args := [d1, d2, d3, d4, d5] }
  | _ => none }
def KeysLineWrongFalsely : Prop := keysLineRow.holds Try.pinned (OpenSpec.ofChange keysLineWrong)

/- THE SECOND FORM. 'bulk': how many values and letters a reading holds, each counted each time it is reached (what is shared counts as often as it is met; a slice's spare places count too). A statement '..UptoSaid' is the law's where the arguments, and the package variables that the reading takes, are together of bulk at most 1048576: NARROWER than '..Said'. Prove '..Said' where nothing that the law and all that it calls make is longer than what came in: it says more and counts as full. Else prove '..UptoSaid'. A law counts once. -/
mutual
def uptoBulk {H : Type} : DataW H → Nat
  | .lit (.string bytes) => bytes.length + 1
  | .lit _ => 1
  | .nil => 1
  | .ptr d => uptoBulk d + 1
  | .slice elems spare => uptoBulkAll elems + uptoBulkAll spare + 1
  | .agg parts => uptoBulkAll parts + 1
  | .iface _ d => uptoBulk d + 1
  | .map entries => uptoBulkEntries entries + 1
  | .held _ => 1
def uptoBulkAll {H : Type} : List (DataW H) → Nat
  | [] => 0
  | d :: r => uptoBulk d + uptoBulkAll r
def uptoBulkEntries {H : Type} : List (Lit × DataW H) → Nat
  | [] => 0
  | x :: r => uptoBulkEntry x + uptoBulkEntries r
def uptoBulkEntry {H : Type} : Lit × DataW H → Nat
  | (.string bytes, d) => bytes.length + uptoBulk d + 1
  | (_, d) => uptoBulk d + 1
 end
def uptoSmall : (H : Type) → List (DataW H) → Bool := fun _ ds => decide (uptoBulkAll ds ≤ 1048576)
def OpenSpec.upto (s : _root_.Go.ChangeSpec) : _root_.Go.OpenSpec := { _root_.Go.OpenSpec.ofChange s with cond := some uptoSmall }

/-- 'ceefaxlaw26.KeysModes', WHERE WHAT IT READS IS OF BULK AT MOST 1048576: true; the input reads as it did. -/
def keysModesUptoRow : OpenClaim := { program := "ytekpbmmhclafiaa", sum := "496800785cbd09278d660c7e27e8afe0247bc89c3e90c5cdd1417ec7d15c290f", func := "ceefax/ceefaxlaw26.KeysModes", spec := "keysModes", apart := false, narrowed := true }
def KeysModesUptoSaid : Prop := keysModesUptoRow.holds Try.pinned (OpenSpec.upto keysModesSpec)

/-- 'ceefaxlaw26.KeysSay', WHERE WHAT IT READS IS OF BULK AT MOST 1048576: true; the input reads as it did. -/
def keysSayUptoRow : OpenClaim := { program := "ytekpbmmhclafiaa", sum := "496800785cbd09278d660c7e27e8afe0247bc89c3e90c5cdd1417ec7d15c290f", func := "ceefax/ceefaxlaw26.KeysSay", spec := "keysSay", apart := false, narrowed := true }
def KeysSayUptoSaid : Prop := keysSayUptoRow.holds Try.pinned (OpenSpec.upto keysSaySpec)

/-- 'ceefaxlaw26.KeysLetters', WHERE WHAT IT READS IS OF BULK AT MOST 1048576: true; the input reads as it did. -/
def keysLettersUptoRow : OpenClaim := { program := "ytekpbmmhclafiaa", sum := "496800785cbd09278d660c7e27e8afe0247bc89c3e90c5cdd1417ec7d15c290f", func := "ceefax/ceefaxlaw26.KeysLetters", spec := "keysLetters", apart := false, narrowed := true }
def KeysLettersUptoSaid : Prop := keysLettersUptoRow.holds Try.pinned (OpenSpec.upto keysLettersSpec)

/-- 'ceefaxlaw26.KeysLine', WHERE WHAT IT READS IS OF BULK AT MOST 1048576: true; the input reads as it did. -/
def keysLineUptoRow : OpenClaim := { program := "ytekpbmmhclafiaa", sum := "496800785cbd09278d660c7e27e8afe0247bc89c3e90c5cdd1417ec7d15c290f", func := "ceefax/ceefaxlaw26.KeysLine", spec := "keysLine", apart := false, narrowed := true }
def KeysLineUptoSaid : Prop := keysLineUptoRow.holds Try.pinned (OpenSpec.upto keysLineSpec)

end Rows
end Go.Proofs.Ytekpbmmhclafiaa
