/-
  No cell of these rows narrows 'for every input' (looked for: loops, veiled, ifaces, maps, wideKeys, modest, calm, conditions, laid).
  DERIVED. THE GIVEN ROWS OF THIS SEAT. 3 by the template 'for every input the law returns true; each argument reads behind the call as it read before'; 0 by the template 'total and deterministic' (their statements: YtdhbafjdfhebjaaTotals.lean).
  GIVEN WITH THE SEED: the statements are not yours to turn. If you find one false, say at which input.
  Laid BY PROGRAM, IN A SANDBOX (cutbox-rows.mjs): the forced cells as the released guide's own fill.sh prints them over the translation d4968070ce4855e8… (all of the seat's roots in one cut). By AI agents, Wed Nov 11 2026. No macro, syntax, notation, axiom, sorry.
-/
import Derived.Test.YtdhbafjdfhebjaaChecked
import GoSem.Claim
import GoSem.ClaimJoined
import GoSem.ClaimMapViews
import Derived.JoinedTies
import Derived.KernelRfl
namespace Go.Proofs.Ytdhbafjdfhebjaa
/- THE CELL 'sum', in the pinned program and in every row, IS THE sha256 OF THE DUMP (.gsa) THAT YtdhbafjdfhebjaaProg.lean LOADS. Nothing in Lean hashes anything: it is a label: what it is worth is what the hold of that sum in a sandbox is worth. -/
noncomputable def Try.pinned : Pinned := { name := "ytdhbafjdfhebjaa", sum := "d4968070ce4855e819a6362157fcf94d945bd84edaf6b950b760f55239a32224", checked := Try.checked }
namespace Rows
def none {H : Type} : Left H := { results := [], args := [] }

/-- 'ceefaxlaw5.AccentNone': WHATEVER THE INPUT: true; the input reads as it did. -/
def accentNoneSpec : ChangeSpec := { name := "accentNone", fn := fun _ => fun
  | [d1, d2] => { results := [.lit (.bool true)], args := [d1, d2] }
  | _ => none }
def accentNoneRow : OpenClaim := { program := "ytdhbafjdfhebjaa", sum := "d4968070ce4855e819a6362157fcf94d945bd84edaf6b950b760f55239a32224", func := "ceefax/ceefaxlaw5.AccentNone", spec := "accentNone", apart := false }
def AccentNoneSaid : Prop := accentNoneRow.holds Try.pinned (OpenSpec.ofChange accentNoneSpec)

/-- ITS FALSE NEIGHBOUR: 'it returns false'. Refute it at one input. -/
def accentNoneWrong : ChangeSpec := { name := "accentNone", fn := fun _ => fun
  | [d1, d2] => { results := [.lit (.bool false)], args := [d1, d2] }
  | _ => none }
def AccentNoneWrongFalsely : Prop := accentNoneRow.holds Try.pinned (OpenSpec.ofChange accentNoneWrong)

/-- 'ceefaxlaw5.AccentBack': WHATEVER THE INPUT: true; the input reads as it did. -/
def accentBackSpec : ChangeSpec := { name := "accentBack", fn := fun _ => fun
  | [d1, d2, d3] => { results := [.lit (.bool true)], args := [d1, d2, d3] }
  | _ => none }
def accentBackRow : OpenClaim := { program := "ytdhbafjdfhebjaa", sum := "d4968070ce4855e819a6362157fcf94d945bd84edaf6b950b760f55239a32224", func := "ceefax/ceefaxlaw5.AccentBack", spec := "accentBack", apart := false }
def AccentBackSaid : Prop := accentBackRow.holds Try.pinned (OpenSpec.ofChange accentBackSpec)

/-- ITS FALSE NEIGHBOUR: 'it returns false'. Refute it at one input. -/
def accentBackWrong : ChangeSpec := { name := "accentBack", fn := fun _ => fun
  | [d1, d2, d3] => { results := [.lit (.bool false)], args := [d1, d2, d3] }
  | _ => none }
def AccentBackWrongFalsely : Prop := accentBackRow.holds Try.pinned (OpenSpec.ofChange accentBackWrong)

/-- 'ceefaxlaw5.AccentSecond': WHATEVER THE INPUT: true; the input reads as it did. -/
def accentSecondSpec : ChangeSpec := { name := "accentSecond", fn := fun _ => fun
  | [d1, d2] => { results := [.lit (.bool true)], args := [d1, d2] }
  | _ => none }
def accentSecondRow : OpenClaim := { program := "ytdhbafjdfhebjaa", sum := "d4968070ce4855e819a6362157fcf94d945bd84edaf6b950b760f55239a32224", func := "ceefax/ceefaxlaw5.AccentSecond", spec := "accentSecond", apart := false }
def AccentSecondSaid : Prop := accentSecondRow.holds Try.pinned (OpenSpec.ofChange accentSecondSpec)

/-- ITS FALSE NEIGHBOUR: 'it returns false'. Refute it at one input. -/
def accentSecondWrong : ChangeSpec := { name := "accentSecond", fn := fun _ => fun
  | [d1, d2] => { results := [.lit (.bool false)], args := [d1, d2] }
  | _ => none }
def AccentSecondWrongFalsely : Prop := accentSecondRow.holds Try.pinned (OpenSpec.ofChange accentSecondWrong)

/- THE SECOND FORM. 'bulk': how many values and letters a reading holds, each counted each time it is reached (what is shared counts as often as it is met; a slice's spare places count too). A statement '..UptoSaid' is the law's where the arguments, and the package variables that the reading takes, are together of bulk at most 1048576: NARROWER than '..Said'. Prove '..Said' where nothing that the law and all that it calls make is longer than what came in: it says more and counts as full. Else prove '..UptoSaid'. A law counts once. -/
mutual
def uptoBulk {H : Type} : DataW H → Nat
  | .lit (.string bytes) => bytes.length + 1
  | .lit _ => 1
  | .nil => 1
  | .ptr d => uptoBulk d + 1
  | .slice elems spare => uptoBulkAll elems + uptoBulkAll spare + 1
  | .agg parts => uptoBulkAll parts + 1
  | .iface _ d => uptoBulk d + 1
  | .map entries => uptoBulkEntries entries + 1
  | .held _ => 1
def uptoBulkAll {H : Type} : List (DataW H) → Nat
  | [] => 0
  | d :: r => uptoBulk d + uptoBulkAll r
def uptoBulkEntries {H : Type} : List (Lit × DataW H) → Nat
  | [] => 0
  | x :: r => uptoBulkEntry x + uptoBulkEntries r
def uptoBulkEntry {H : Type} : Lit × DataW H → Nat
  | (.string bytes, d) => bytes.length + uptoBulk d + 1
  | (_, d) => uptoBulk d + 1
 end
def uptoSmall : (H : Type) → List (DataW H) → Bool := fun _ ds => decide (uptoBulkAll ds ≤ 1048576)
def OpenSpec.upto (s : _root_.Go.ChangeSpec) : _root_.Go.OpenSpec := { _root_.Go.OpenSpec.ofChange s with cond := some uptoSmall }

/-- 'ceefaxlaw5.AccentNone', WHERE WHAT IT READS IS OF BULK AT MOST 1048576: true; the input reads as it did. -/
def accentNoneUptoRow : OpenClaim := { program := "ytdhbafjdfhebjaa", sum := "d4968070ce4855e819a6362157fcf94d945bd84edaf6b950b760f55239a32224", func := "ceefax/ceefaxlaw5.AccentNone", spec := "accentNone", apart := false, narrowed := true }
def AccentNoneUptoSaid : Prop := accentNoneUptoRow.holds Try.pinned (OpenSpec.upto accentNoneSpec)

/-- 'ceefaxlaw5.AccentBack', WHERE WHAT IT READS IS OF BULK AT MOST 1048576: true; the input reads as it did. -/
def accentBackUptoRow : OpenClaim := { program := "ytdhbafjdfhebjaa", sum := "d4968070ce4855e819a6362157fcf94d945bd84edaf6b950b760f55239a32224", func := "ceefax/ceefaxlaw5.AccentBack", spec := "accentBack", apart := false, narrowed := true }
def AccentBackUptoSaid : Prop := accentBackUptoRow.holds Try.pinned (OpenSpec.upto accentBackSpec)

/-- 'ceefaxlaw5.AccentSecond', WHERE WHAT IT READS IS OF BULK AT MOST 1048576: true; the input reads as it did. -/
def accentSecondUptoRow : OpenClaim := { program := "ytdhbafjdfhebjaa", sum := "d4968070ce4855e819a6362157fcf94d945bd84edaf6b950b760f55239a32224", func := "ceefax/ceefaxlaw5.AccentSecond", spec := "accentSecond", apart := false, narrowed := true }
def AccentSecondUptoSaid : Prop := accentSecondUptoRow.holds Try.pinned (OpenSpec.upto accentSecondSpec)

end Rows
end Go.Proofs.Ytdhbafjdfhebjaa
