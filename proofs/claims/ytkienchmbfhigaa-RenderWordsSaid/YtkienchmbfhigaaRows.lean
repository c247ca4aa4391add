/-
  No cell of these rows narrows 'for every input' (looked for: loops, veiled, ifaces, maps, wideKeys, modest, calm, conditions, laid).
  DERIVED. THE GIVEN ROWS OF THIS SEAT. 5 by the template 'for every input the law returns true; each argument reads behind the call as it read before'; 0 by the template 'total and deterministic' (their statements: YtkienchmbfhigaaTotals.lean).
  GIVEN WITH THE SEED: the statements are not yours to turn. If you find one false, say at which input.
  Laid BY PROGRAM, IN A SANDBOX (cutbox-rows.mjs): the forced cells as the released guide's own fill.sh prints them over the translation 378ad483cf787678… (all of the seat's roots in one cut). By AI agents, Wed Nov 11 2026. No macro, syntax, notation, axiom, sorry.
-/
import Derived.Test.YtkienchmbfhigaaChecked
import GoSem.Claim
import GoSem.ClaimJoined
import GoSem.ClaimMapViews
import Derived.JoinedTies
import Derived.KernelRfl
namespace Go.Proofs.Ytkienchmbfhigaa
/- THE CELL 'sum', in the pinned program and in every row, IS THE sha256 OF THE DUMP (.gsa) THAT YtkienchmbfhigaaProg.lean LOADS. Nothing in Lean hashes anything: it is a label: what it is worth is what the hold of that sum in a sandbox is worth. -/
noncomputable def Try.pinned : Pinned := { name := "ytkienchmbfhigaa", sum := "378ad483cf787678b2185753cfc05da9089f89bd617e0bddc346582082e5f532", checked := Try.checked }
namespace Rows
def none {H : Type} : Left H := { results := [], args := [] }

/-- 'ceefaxlaw17.RenderFlags': WHATEVER THE INPUT: true; the input reads as it did. -/
def renderFlagsSpec : ChangeSpec := { name := "renderFlags", fn := fun _ => fun
  | [d1, d2, d3, d4, d5] => { results := [.lit (.bool true)], args := [d1, d2, d3, d4, d5] }
  | _ => none }
def renderFlagsRow : OpenClaim := { program := "ytkienchmbfhigaa", sum := "378ad483cf787678b2185753cfc05da9089f89bd617e0bddc346582082e5f532", func := "ceefax/ceefaxlaw17.RenderFlags", spec := "renderFlags", inPlace := ["internal/bytealg.IndexByte"], apart := false }
def RenderFlagsSaid : Prop := renderFlagsRow.holds Try.pinned (OpenSpec.ofChange renderFlagsSpec)

/-- ITS FALSE NEIGHBOUR: 'it returns false'. Refute it at one input. -/
def renderFlagsWrong : ChangeSpec := { name := "renderFlags", fn := fun _ => fun
  | [d1, d2, d3, d4, d5] => { results := [.lit (.bool false)], args := [d1, d2, d3, d4, d5] }
  | _ => none }
def RenderFlagsWrongFalsely : Prop := renderFlagsRow.holds Try.pinned (OpenSpec.ofChange renderFlagsWrong)

/-- 'ceefaxlaw17.RenderBoxes': WHATEVER THE INPUT: true; the input reads as it did. -/
def renderBoxesSpec : ChangeSpec := { name := "renderBoxes", fn := fun _ => fun
  | [d1, d2, d3, d4] => { results := [.lit (.bool true)], args := [d1, d2, d3, d4] }
  | _ => none }
def renderBoxesRow : OpenClaim := { program := "ytkienchmbfhigaa", sum := "378ad483cf787678b2185753cfc05da9089f89bd617e0bddc346582082e5f532", func := "ceefax/ceefaxlaw17.RenderBoxes", spec := "renderBoxes", inPlace := ["internal/bytealg.IndexByte"], apart := false }
def RenderBoxesSaid : Prop := renderBoxesRow.holds Try.pinned (OpenSpec.ofChange renderBoxesSpec)

/-- ITS FALSE NEIGHBOUR: 'it returns false'. Refute it at one input. -/
def renderBoxesWrong : ChangeSpec := { name := "renderBoxes", fn := fun _ => fun
  | [d1, d2, d3, d4] => { results := [.lit (.bool false)], args := [d1, d2, d3, d4] }
  | _ => none }
def RenderBoxesWrongFalsely : Prop := renderBoxesRow.holds Try.pinned (OpenSpec.ofChange renderBoxesWrong)

/-- 'ceefaxlaw17.RenderWords': WHATEVER THE INPUT: true; the input reads as it did. -/
def renderWordsSpec : ChangeSpec := { name := "renderWords", fn := fun _ => fun
  | [d1, d2, d3, d4] => { results := [.lit (.bool true)], args := [d1, d2, d3, d4] }
  | _ => none }
def renderWordsRow : OpenClaim := { program := "ytkienchmbfhigaa", sum := "378ad483cf787678b2185753cfc05da9089f89bd617e0bddc346582082e5f532", func := "ceefax/ceefaxlaw17.RenderWords", spec := "renderWords", inPlace := ["internal/bytealg.IndexByte"], apart := false }
def RenderWordsSaid : Prop := renderWordsRow.holds Try.pinned (OpenSpec.ofChange renderWordsSpec)

/-- ITS FALSE NEIGHBOUR: 'it returns false'. Refute it at one input. -/
def renderWordsWrong : ChangeSpec := { name := "renderWords", fn := fun _ => fun
  | [d1, d2, d3, d4] => { results := [.lit (.bool false)], args := [d1, d2, d3, d4] }
  | _ => none }
def RenderWordsWrongFalsely : Prop := renderWordsRow.holds Try.pinned (OpenSpec.ofChange renderWordsWrong)

/-- 'ceefaxlaw17.RenderRows': WHATEVER THE INPUT: true; the input reads as it did. -/
def renderRowsSpec : ChangeSpec := { name := "renderRows", fn := fun _ => fun
  | [d1, d2, d3] => { results := [.lit (.bool true)], args := [d1, d2, d3] }
  | _ => none }
def renderRowsRow : OpenClaim := { program := "ytkienchmbfhigaa", sum := "378ad483cf787678b2185753cfc05da9089f89bd617e0bddc346582082e5f532", func := "ceefax/ceefaxlaw17.RenderRows", spec := "renderRows", inPlace := ["internal/bytealg.IndexByte"], apart := false }
def RenderRowsSaid : Prop := renderRowsRow.holds Try.pinned (OpenSpec.ofChange renderRowsSpec)

/-- ITS FALSE NEIGHBOUR: 'it returns false'. Refute it at one input. -/
def renderRowsWrong : ChangeSpec := { name := "renderRows", fn := fun _ => fun
  | [d1, d2, d3] => { results := [.lit (.bool false)], args := [d1, d2, d3] }
  | _ => none }
def RenderRowsWrongFalsely : Prop := renderRowsRow.holds Try.pinned (OpenSpec.ofChange renderRowsWrong)

/-- 'ceefaxlaw17.RenderTall': WHATEVER THE INPUT: true; the input reads as it did. -/
def renderTallSpec : ChangeSpec := { name := "renderTall", fn := fun _ => fun
  | [d1, d2, d3, d4] => { results := [.lit (.bool true)], args := [d1, d2, d3, d4] }
  | _ => none }
def renderTallRow : OpenClaim := { program := "ytkienchmbfhigaa", sum := "378ad483cf787678b2185753cfc05da9089f89bd617e0bddc346582082e5f532", func := "ceefax/ceefaxlaw17.RenderTall", spec := "renderTall", inPlace := ["internal/bytealg.IndexByte"], apart := false }
def RenderTallSaid : Prop := renderTallRow.holds Try.pinned (OpenSpec.ofChange renderTallSpec)

/-- ITS FALSE NEIGHBOUR: 'it returns false'. Refute it at one input. -/
def renderTallWrong : ChangeSpec := { name := "renderTall", fn := fun _ => fun
  | [d1, d2, d3, d4] => { results := [.lit (.bool false)], args := [d1, d2, d3, d4] }
  | _ => none }
def RenderTallWrongFalsely : Prop := renderTallRow.holds Try.pinned (OpenSpec.ofChange renderTallWrong)

/- THE SECOND FORM. 'bulk': how many values and letters a reading holds, each counted each time it is reached (what is shared counts as often as it is met; a slice's spare places count too). A statement '..UptoSaid' is the law's where the arguments, and the package variables that the reading takes, are together of bulk at most 1048576: NARROWER than '..Said'. Prove '..Said' where nothing that the law and all that it calls make is longer than what came in: it says more and counts as full. Else prove '..UptoSaid'. A law counts once. -/
mutual
def uptoBulk {H : Type} : DataW H → Nat
  | .lit (.string bytes) => bytes.length + 1
  | .lit _ => 1
  | .nil => 1
  | .ptr d => uptoBulk d + 1
  | .slice elems spare => uptoBulkAll elems + uptoBulkAll spare + 1
  | .agg parts => uptoBulkAll parts + 1
  | .iface _ d => uptoBulk d + 1
  | .map entries => uptoBulkEntries entries + 1
  | .held _ => 1
def uptoBulkAll {H : Type} : List (DataW H) → Nat
  | [] => 0
  | d :: r => uptoBulk d + uptoBulkAll r
def uptoBulkEntries {H : Type} : List (Lit × DataW H) → Nat
  | [] => 0
  | x :: r => uptoBulkEntry x + uptoBulkEntries r
def uptoBulkEntry {H : Type} : Lit × DataW H → Nat
  | (.string bytes, d) => bytes.length + uptoBulk d + 1
  | (_, d) => uptoBulk d + 1
 end
def uptoSmall : (H : Type) → List (DataW H) → Bool := fun _ ds => decide (uptoBulkAll ds ≤ 1048576)
def OpenSpec.upto (s : _root_.Go.ChangeSpec) : _root_.Go.OpenSpec := { _root_.Go.OpenSpec.ofChange s with cond := some uptoSmall }

/-- 'ceefaxlaw17.RenderFlags', WHERE WHAT IT READS IS OF BULK AT MOST 1048576: true; the input reads as it did. -/
def renderFlagsUptoRow : OpenClaim := { program := "ytkienchmbfhigaa", sum := "378ad483cf787678b2185753cfc05da9089f89bd617e0bddc346582082e5f532", func := "ceefax/ceefaxlaw17.RenderFlags", spec := "renderFlags", inPlace := ["internal/bytealg.IndexByte"], apart := false, narrowed := true }
def RenderFlagsUptoSaid : Prop := renderFlagsUptoRow.holds Try.pinned (OpenSpec.upto renderFlagsSpec)

/-- 'ceefaxlaw17.RenderBoxes', WHERE WHAT IT READS IS OF BULK AT MOST 1048576: true; the input reads as it did. -/
def renderBoxesUptoRow : OpenClaim := { program := "ytkienchmbfhigaa", sum := "378ad483cf787678b2185753cfc05da9089f89bd617e0bddc346582082e5f532", func := "ceefax/ceefaxlaw17.RenderBoxes", spec := "renderBoxes", inPlace := ["internal/bytealg.IndexByte"], apart := false, narrowed := true }
def RenderBoxesUptoSaid : Prop := renderBoxesUptoRow.holds Try.pinned (OpenSpec.upto renderBoxesSpec)

/-- 'ceefaxlaw17.RenderWords', WHERE WHAT IT READS IS OF BULK AT MOST 1048576: true; the input reads as it did. -/
def renderWordsUptoRow : OpenClaim := { program := "ytkienchmbfhigaa", sum := "378ad483cf787678b2185753cfc05da9089f89bd617e0bddc346582082e5f532", func := "ceefax/ceefaxlaw17.RenderWords", spec := "renderWords", inPlace := ["internal/bytealg.IndexByte"], apart := false, narrowed := true }
def RenderWordsUptoSaid : Prop := renderWordsUptoRow.holds Try.pinned (OpenSpec.upto renderWordsSpec)

/-- 'ceefaxlaw17.RenderRows', WHERE WHAT IT READS IS OF BULK AT MOST 1048576: true; the input reads as it did. -/
def renderRowsUptoRow : OpenClaim := { program := "ytkienchmbfhigaa", sum := "378ad483cf787678b2185753cfc05da9089f89bd617e0bddc346582082e5f532", func := "ceefax/ceefaxlaw17.RenderRows", spec := "renderRows", inPlace := ["internal/bytealg.IndexByte"], apart := false, narrowed := true }
def RenderRowsUptoSaid : Prop := renderRowsUptoRow.holds Try.pinned (OpenSpec.upto renderRowsSpec)

/-- 'ceefaxlaw17.RenderTall', WHERE WHAT IT READS IS OF BULK AT MOST 1048576: true; the input reads as it did. -/
def renderTallUptoRow : OpenClaim := { program := "ytkienchmbfhigaa", sum := "378ad483cf787678b2185753cfc05da9089f89bd617e0bddc346582082e5f532", func := "ceefax/ceefaxlaw17.RenderTall", spec := "renderTall", inPlace := ["internal/bytealg.IndexByte"], apart := false, narrowed := true }
def RenderTallUptoSaid : Prop := renderTallUptoRow.holds Try.pinned (OpenSpec.upto renderTallSpec)

end Rows
end Go.Proofs.Ytkienchmbfhigaa
