/-
  No cell of these rows narrows 'for every input' (looked for: loops, veiled, ifaces, maps, wideKeys, modest, calm, conditions, laid).
  DERIVED. THE GIVEN ROWS OF THIS SEAT. 4 by the template 'for every input the law returns true; each argument reads behind the call as it read before'; 0 by the template 'total and deterministic' (their statements: YtafgafpclbcflaaTotals.lean).
  GIVEN WITH THE SEED: the statements are not yours to turn. If you find one false, say at which input.
  Laid BY PROGRAM, IN A SANDBOX (cutbox-rows.mjs): the forced cells as the released guide's own fill.sh prints them over the translation 3f0952a611b1d366… (all of the seat's roots in one cut). By AI agents, Wed Nov 11 2026. No macro, syntax, notation, axiom, sorry.
-/
import Derived.Test.YtafgafpclbcflaaChecked
import GoSem.Claim
import GoSem.ClaimJoined
import GoSem.ClaimMapViews
import Derived.JoinedTies
import Derived.KernelRfl
namespace Go.Proofs.Ytafgafpclbcflaa
/- THE CELL 'sum', in the pinned program and in every row, IS THE sha256 OF THE DUMP (.gsa) THAT YtafgafpclbcflaaProg.lean LOADS. Nothing in Lean hashes anything: it is a label: what it is worth is what the hold of that sum in a sandbox is worth. -/
noncomputable def Try.pinned : Pinned := { name := "ytafgafpclbcflaa", sum := "3f0952a611b1d366a0fc263778c8e44d214b4bc4b882d68ad34d9fbabc8d22d7", checked := Try.checked }
namespace Rows
def none {H : Type} : Left H := { results := [], args := [] }

/-- 'ceefaxlaw20.MsetSays': WHATEVER THE INPUT: true; the input reads as it did. -/
def msetSaysSpec : ChangeSpec := { name := "msetSays", fn := fun _ => fun
  | [d1, d2, d3, d4, d5] => { results := [.lit (.bool true)], args := [d1, d2, d3, d4, d5] }
  | _ => none }
def msetSaysRow : OpenClaim := { program := "ytafgafpclbcflaa", sum := "3f0952a611b1d366a0fc263778c8e44d214b4bc4b882d68ad34d9fbabc8d22d7", func := "ceefax/ceefaxlaw20.MsetSays", spec := "msetSays", apart := false }
def MsetSaysSaid : Prop := msetSaysRow.holds Try.pinned (OpenSpec.ofChange msetSaysSpec)

/-- ITS FALSE NEIGHBOUR: 'it returns false'. Refute it at one input. -/
def msetSaysWrong : ChangeSpec := { name := "msetSays", fn := fun _ => fun
  | [d1, d2, d3, d4, d5] => { results := [.lit (.bool false)], args := [d1, d2, d3, d4, d5] }
  | _ => none }
def MsetSaysWrongFalsely : Prop := msetSaysRow.holds Try.pinned (OpenSpec.ofChange msetSaysWrong)

/-- 'ceefaxlaw20.MsetLetters': WHATEVER THE INPUT: true; the input reads as it did. -/
def msetLettersSpec : ChangeSpec := { name := "msetLetters", fn := fun _ => fun
  | [d1, d2, d3] => { results := [.lit (.bool true)], args := [d1, d2, d3] }
  | _ => none }
def msetLettersRow : OpenClaim := { program := "ytafgafpclbcflaa", sum := "3f0952a611b1d366a0fc263778c8e44d214b4bc4b882d68ad34d9fbabc8d22d7", func := "ceefax/ceefaxlaw20.MsetLetters", spec := "msetLetters", apart := false }
def MsetLettersSaid : Prop := msetLettersRow.holds Try.pinned (OpenSpec.ofChange msetLettersSpec)

/-- ITS FALSE NEIGHBOUR: 'it returns false'. Refute it at one input. -/
def msetLettersWrong : ChangeSpec := { name := "msetLetters", fn := fun _ => fun
  | [d1, d2, d3] => { results := [.lit (.bool false)], args := [d1, d2, d3] }
  | _ => none }
def MsetLettersWrongFalsely : Prop := msetLettersRow.holds Try.pinned (OpenSpec.ofChange msetLettersWrong)

/-- 'ceefaxlaw20.MsetJoins': WHATEVER THE INPUT: true; the input reads as it did. -/
def msetJoinsSpec : ChangeSpec := { name := "msetJoins", fn := fun _ => fun
  | [d1, d2] => { results := [.lit (.bool true)], args := [d1, d2] }
  | _ => none }
def msetJoinsRow : OpenClaim := { program := "ytafgafpclbcflaa", sum := "3f0952a611b1d366a0fc263778c8e44d214b4bc4b882d68ad34d9fbabc8d22d7", func := "ceefax/ceefaxlaw20.MsetJoins", spec := "msetJoins", apart := false }
def MsetJoinsSaid : Prop := msetJoinsRow.holds Try.pinned (OpenSpec.ofChange msetJoinsSpec)

/-- ITS FALSE NEIGHBOUR: 'it returns false'. Refute it at one input. -/
def msetJoinsWrong : ChangeSpec := { name := "msetJoins", fn := fun _ => fun
  | [d1, d2] => { results := [.lit (.bool false)], args := [d1, d2] }
  | _ => none }
def MsetJoinsWrongFalsely : Prop := msetJoinsRow.holds Try.pinned (OpenSpec.ofChange msetJoinsWrong)

/-- 'ceefaxlaw20.MsetSpecials': WHATEVER THE INPUT: true; the input reads as it did. -/
def msetSpecialsSpec : ChangeSpec := { name := "msetSpecials", fn := fun _ => fun
  | [d1, d2, d3] => { results := [.lit (.bool true)], args := [d1, d2, d3] }
  | _ => none }
def msetSpecialsRow : OpenClaim := { program := "ytafgafpclbcflaa", sum := "3f0952a611b1d366a0fc263778c8e44d214b4bc4b882d68ad34d9fbabc8d22d7", func := "ceefax/ceefaxlaw20.MsetSpecials", spec := "msetSpecials", apart := false }
def MsetSpecialsSaid : Prop := msetSpecialsRow.holds Try.pinned (OpenSpec.ofChange msetSpecialsSpec)

/-- ITS FALSE NEIGHBOUR: 'it returns false'. Refute it at one input. -/
def msetSpecialsWrong : ChangeSpec := { name := "msetSpecials", fn := fun _ => fun
  | [d1, d2, d3] => { results := [.lit (.bool false)], args := [d1, d2, d3] }
  | _ => none }
def MsetSpecialsWrongFalsely : Prop := msetSpecialsRow.holds Try.pinned (OpenSpec.ofChange msetSpecialsWrong)

/- THE SECOND FORM. 'bulk': how many values and letters a reading holds, each counted each time it is reached (what is shared counts as often as it is met; a slice's spare places count too). A statement '..UptoSaid' is the law's where the arguments, and the package variables that the reading takes, are together of bulk at most 1048576: NARROWER than '..Said'. Prove '..Said' where nothing that the law and all that it calls make is longer than what came in: it says more and counts as full. Else prove '..UptoSaid'. A law counts once. -/
mutual
def uptoBulk {H : Type} : DataW H → Nat
  | .lit (.string bytes) => bytes.length + 1
  | .lit _ => 1
  | .nil => 1
  | .ptr d => uptoBulk d + 1
  | .slice elems spare => uptoBulkAll elems + uptoBulkAll spare + 1
  | .agg parts => uptoBulkAll parts + 1
  | .iface _ d => uptoBulk d + 1
  | .map entries => uptoBulkEntries entries + 1
  | .held _ => 1
def uptoBulkAll {H : Type} : List (DataW H) → Nat
  | [] => 0
  | d :: r => uptoBulk d + uptoBulkAll r
def uptoBulkEntries {H : Type} : List (Lit × DataW H) → Nat
  | [] => 0
  | x :: r => uptoBulkEntry x + uptoBulkEntries r
def uptoBulkEntry {H : Type} : Lit × DataW H → Nat
  | (.string bytes, d) => bytes.length + uptoBulk d + 1
  | (_, d) => uptoBulk d + 1
 end
def uptoSmall : (H : Type) → List (DataW H) → Bool := fun _ ds => decide (uptoBulkAll ds ≤ 1048576)
def OpenSpec.upto (s : _root_.Go.ChangeSpec) : _root_.Go.OpenSpec := { _root_.Go.OpenSpec.ofChange s with cond := some uptoSmall }

/-- 'ceefaxlaw20.MsetSays', WHERE WHAT IT READS IS OF BULK AT MOST 1048576: true; the input reads as it did. -/
def msetSaysUptoRow : OpenClaim := { program := "ytafgafpclbcflaa", sum := "3f0952a611b1d366a0fc263778c8e44d214b4bc4b882d68ad34d9fbabc8d22d7", func := "ceefax/ceefaxlaw20.MsetSays", spec := "msetSays", apart := false, narrowed := true }
def MsetSaysUptoSaid : Prop := msetSaysUptoRow.holds Try.pinned (OpenSpec.upto msetSaysSpec)

/-- 'ceefaxlaw20.MsetLetters', WHERE WHAT IT READS IS OF BULK AT MOST 1048576: true; the input reads as it did. -/
def msetLettersUptoRow : OpenClaim := { program := "ytafgafpclbcflaa", sum := "3f0952a611b1d366a0fc263778c8e44d214b4bc4b882d68ad34d9fbabc8d22d7", func := "ceefax/ceefaxlaw20.MsetLetters", spec := "msetLetters", apart := false, narrowed := true }
def MsetLettersUptoSaid : Prop := msetLettersUptoRow.holds Try.pinned (OpenSpec.upto msetLettersSpec)

/-- 'ceefaxlaw20.MsetJoins', WHERE WHAT IT READS IS OF BULK AT MOST 1048576: true; the input reads as it did. -/
def msetJoinsUptoRow : OpenClaim := { program := "ytafgafpclbcflaa", sum := "3f0952a611b1d366a0fc263778c8e44d214b4bc4b882d68ad34d9fbabc8d22d7", func := "ceefax/ceefaxlaw20.MsetJoins", spec := "msetJoins", apart := false, narrowed := true }
def MsetJoinsUptoSaid : Prop := msetJoinsUptoRow.holds Try.pinned (OpenSpec.upto msetJoinsSpec)

/-- 'ceefaxlaw20.MsetSpecials', WHERE WHAT IT READS IS OF BULK AT MOST 1048576: true; the input reads as it did. -/
def msetSpecialsUptoRow : OpenClaim := { program := "ytafgafpclbcflaa", sum := "3f0952a611b1d366a0fc263778c8e44d214b4bc4b882d68ad34d9fbabc8d22d7", func := "ceefax/ceefaxlaw20.MsetSpecials", spec := "msetSpecials", apart := false, narrowed := true }
def MsetSpecialsUptoSaid : Prop := msetSpecialsUptoRow.holds Try.pinned (OpenSpec.upto msetSpecialsSpec)

end Rows
end Go.Proofs.Ytafgafpclbcflaa
