/-
  No cell of these rows narrows 'for every input' (looked for: loops, veiled, ifaces, maps, wideKeys, modest, calm, conditions, laid).
  DERIVED. THE GIVEN ROWS OF THIS SEAT. 6 by the template 'for every input the law returns true; each argument reads behind the call as it read before'; 0 by the template 'total and deterministic' (their statements: YtnkpmgefeijffaaTotals.lean).
  GIVEN WITH THE SEED: the statements are not yours to turn. If you find one false, say at which input.
  Laid BY PROGRAM, IN A SANDBOX (cutbox-rows.mjs): the forced cells as the released guide's own fill.sh prints them over the translation 1159fca32e2d6691… (all of the seat's roots in one cut). By AI agents, Wed Nov 11 2026. No macro, syntax, notation, axiom, sorry.
-/
import Derived.Test.YtnkpmgefeijffaaChecked
import GoSem.Claim
import GoSem.ClaimJoined
import GoSem.ClaimMapViews
import Derived.JoinedTies
import Derived.KernelRfl
namespace Go.Proofs.Ytnkpmgefeijffaa
/- THE CELL 'sum', in the pinned program and in every row, IS THE sha256 OF THE DUMP (.gsa) THAT YtnkpmgefeijffaaProg.lean LOADS. Nothing in Lean hashes anything: it is a label: what it is worth is what the hold of that sum in a sandbox is worth. -/
noncomputable def Try.pinned : Pinned := { name := "ytnkpmgefeijffaa", sum := "1159fca32e2d6691050cabc1dd5666cc2e4dbfa7c411a5ce1ff8c56bada73f86", checked := Try.checked }
namespace Rows
def none {H : Type} : Left H := { results := [], args := [] }

/-- 'ceefaxlaw25.ProtoPlays': WHATEVER THE INPUT: true; the input reads as it did. -/
def protoPlaysSpec : ChangeSpec := { name := "protoPlays", fn := fun _ => fun
  | [d] => { results := [.lit (.bool true)], args := [d] }
  | _ => none }
def protoPlaysRow : OpenClaim := { program := "ytnkpmgefeijffaa", sum := "1159fca32e2d6691050cabc1dd5666cc2e4dbfa7c411a5ce1ff8c56bada73f86", func := "ceefax/ceefaxlaw25.ProtoPlays", spec := "protoPlays", apart := false }
def ProtoPlaysSaid : Prop := protoPlaysRow.holds Try.pinned (OpenSpec.ofChange protoPlaysSpec)

/-- ITS FALSE NEIGHBOUR: 'it returns false'. Refute it at one input. -/
def protoPlaysWrong : ChangeSpec := { name := "protoPlays", fn := fun _ => fun
  | [d] => { results := [.lit (.bool false)], args := [d] }
  | _ => none }
def ProtoPlaysWrongFalsely : Prop := protoPlaysRow.holds Try.pinned (OpenSpec.ofChange protoPlaysWrong)

/-- 'ceefaxlaw25.ProtoModes': WHATEVER THE INPUT: true; the input reads as it did. -/
def protoModesSpec : ChangeSpec := { name := "protoModes", fn := fun _ => fun
  | [d] => { results := [.lit (.bool true)], args := [d] }
  | _ => none }
def protoModesRow : OpenClaim := { program := "ytnkpmgefeijffaa", sum := "1159fca32e2d6691050cabc1dd5666cc2e4dbfa7c411a5ce1ff8c56bada73f86", func := "ceefax/ceefaxlaw25.ProtoModes", spec := "protoModes", apart := false }
def ProtoModesSaid : Prop := protoModesRow.holds Try.pinned (OpenSpec.ofChange protoModesSpec)

/-- ITS FALSE NEIGHBOUR: 'it returns false'. Refute it at one input. -/
def protoModesWrong : ChangeSpec := { name := "protoModes", fn := fun _ => fun
  | [d] => { results := [.lit (.bool false)], args := [d] }
  | _ => none }
def ProtoModesWrongFalsely : Prop := protoModesRow.holds Try.pinned (OpenSpec.ofChange protoModesWrong)

/-- 'ceefaxlaw25.ProtoLinks': WHATEVER THE INPUT: true; the input reads as it did. -/
def protoLinksSpec : ChangeSpec := { name := "protoLinks", fn := fun _ => fun
  | [d1, d2, d3, d4] => { results := [.lit (.bool true)], args := [d1, d2, d3, d4] }
  | _ => none }
def protoLinksRow : OpenClaim := { program := "ytnkpmgefeijffaa", sum := "1159fca32e2d6691050cabc1dd5666cc2e4dbfa7c411a5ce1ff8c56bada73f86", func := "ceefax/ceefaxlaw25.ProtoLinks", spec := "protoLinks", apart := false }
def ProtoLinksSaid : Prop := protoLinksRow.holds Try.pinned (OpenSpec.ofChange protoLinksSpec)

/-- ITS FALSE NEIGHBOUR: 'it returns false'. Refute it at one input. -/
def protoLinksWrong : ChangeSpec := { name := "protoLinks", fn := fun _ => fun
  | [d1, d2, d3, d4] => { results := [.lit (.bool false)], args := [d1, d2, d3, d4] }
  | _ => none }
def ProtoLinksWrongFalsely : Prop := protoLinksRow.holds Try.pinned (OpenSpec.ofChange protoLinksWrong)

/-- 'ceefaxlaw25.ProtoQuiet': WHATEVER THE INPUT: true; the input reads as it did. -/
def protoQuietSpec : ChangeSpec := { name := "protoQuiet", fn := fun _ => fun
  | [d1, d2] => { results := [.lit (.bool true)], args := [d1, d2] }
  | _ => none }
def protoQuietRow : OpenClaim := { program := "ytnkpmgefeijffaa", sum := "1159fca32e2d6691050cabc1dd5666cc2e4dbfa7c411a5ce1ff8c56bada73f86", func := "ceefax/ceefaxlaw25.ProtoQuiet", spec := "protoQuiet", apart := false }
def ProtoQuietSaid : Prop := protoQuietRow.holds Try.pinned (OpenSpec.ofChange protoQuietSpec)

/-- ITS FALSE NEIGHBOUR: 'it returns false'. Refute it at one input. -/
def protoQuietWrong : ChangeSpec := { name := "protoQuiet", fn := fun _ => fun
  | [d1, d2] => { results := [.lit (.bool false)], args := [d1, d2] }
  | _ => none }
def ProtoQuietWrongFalsely : Prop := protoQuietRow.holds Try.pinned (OpenSpec.ofChange protoQuietWrong)

/-- 'ceefaxlaw25.ProtoSpeeds': WHATEVER THE INPUT: true; the input reads as it did. -/
def protoSpeedsSpec : ChangeSpec := { name := "protoSpeeds", fn := fun _ => fun
  | [d] => { results := [.lit (.bool true)], args := [d] }
  | _ => none }
def protoSpeedsRow : OpenClaim := { program := "ytnkpmgefeijffaa", sum := "1159fca32e2d6691050cabc1dd5666cc2e4dbfa7c411a5ce1ff8c56bada73f86", func := "ceefax/ceefaxlaw25.ProtoSpeeds", spec := "protoSpeeds", apart := false }
def ProtoSpeedsSaid : Prop := protoSpeedsRow.holds Try.pinned (OpenSpec.ofChange protoSpeedsSpec)

/-- ITS FALSE NEIGHBOUR: 'it returns false'. Refute it at one input. -/
def protoSpeedsWrong : ChangeSpec := { name := "protoSpeeds", fn := fun _ => fun
  | [d] => { results := [.lit (.bool false)], args := [d] }
  | _ => none }
def ProtoSpeedsWrongFalsely : Prop := protoSpeedsRow.holds Try.pinned (OpenSpec.ofChange protoSpeedsWrong)

/-- 'ceefaxlaw25.ProtoBoards': WHATEVER THE INPUT: true; the input reads as it did. -/
def protoBoardsSpec : ChangeSpec := { name := "protoBoards", fn := fun _ => fun
  | [d] => { results := [.lit (.bool true)], args := [d] }
  | _ => none }
def protoBoardsRow : OpenClaim := { program := "ytnkpmgefeijffaa", sum := "1159fca32e2d6691050cabc1dd5666cc2e4dbfa7c411a5ce1ff8c56bada73f86", func := "ceefax/ceefaxlaw25.ProtoBoards", spec := "protoBoards", apart := false }
def ProtoBoardsSaid : Prop := protoBoardsRow.holds Try.pinned (OpenSpec.ofChange protoBoardsSpec)

/-- ITS FALSE NEIGHBOUR: 'it returns false'. Refute it at one input. -/
def protoBoardsWrong : ChangeSpec := { name := "protoBoards", fn := fun _ => fun
  | [d] => { results := [.lit (.bool false)], args := [d] }
  | _ => none }
def ProtoBoardsWrongFalsely : Prop := protoBoardsRow.holds Try.pinned (OpenSpec.ofChange protoBoardsWrong)

/- THE SECOND FORM. 'bulk': how many values and letters a reading holds, each counted each time it is reached (what is shared counts as often as it is met; a slice's spare places count too). A statement '..UptoSaid' is the law's where the arguments, and the package variables that the reading takes, are together of bulk at most 1048576: NARROWER than '..Said'. Prove '..Said' where nothing that the law and all that it calls make is longer than what came in: it says more and counts as full. Else prove '..UptoSaid'. A law counts once. -/
mutual
def uptoBulk {H : Type} : DataW H → Nat
  | .lit (.string bytes) => bytes.length + 1
  | .lit _ => 1
  | .nil => 1
  | .ptr d => uptoBulk d + 1
  | .slice elems spare => uptoBulkAll elems + uptoBulkAll spare + 1
  | .agg parts => uptoBulkAll parts + 1
  | .iface _ d => uptoBulk d + 1
  | .map entries => uptoBulkEntries entries + 1
  | .held _ => 1
def uptoBulkAll {H : Type} : List (DataW H) → Nat
  | [] => 0
  | d :: r => uptoBulk d + uptoBulkAll r
def uptoBulkEntries {H : Type} : List (Lit × DataW H) → Nat
  | [] => 0
  | x :: r => uptoBulkEntry x + uptoBulkEntries r
def uptoBulkEntry {H : Type} : Lit × DataW H → Nat
  | (.string bytes, d) => bytes.length + uptoBulk d + 1
  | (_, d) => uptoBulk d + 1
 end
def uptoSmall : (H : Type) → List (DataW H) → Bool := fun _ ds => decide (uptoBulkAll ds ≤ 1048576)
def OpenSpec.upto (s : _root_.Go.ChangeSpec) : _root_.Go.OpenSpec := { _root_.Go.OpenSpec.ofChange s with cond := some uptoSmall }

/-- 'ceefaxlaw25.ProtoPlays', WHERE WHAT IT READS IS OF BULK AT MOST 1048576: true; the input reads as it did. -/
def protoPlaysUptoRow : OpenClaim := { program := "ytnkpmgefeijffaa", sum := "1159fca32e2d6691050cabc1dd5666cc2e4dbfa7c411a5ce1ff8c56bada73f86", func := "ceefax/ceefaxlaw25.ProtoPlays", spec := "protoPlays", apart := false, narrowed := true }
def ProtoPlaysUptoSaid : Prop := protoPlaysUptoRow.holds Try.pinned (OpenSpec.upto protoPlaysSpec)

/-- 'ceefaxlaw25.ProtoModes', WHERE WHAT IT READS IS OF BULK AT MOST 1048576: true; the input reads as it did. -/
def protoModesUptoRow : OpenClaim := { program := "ytnkpmgefeijffaa", sum := "1159fca32e2d6691050cabc1dd5666cc2e4dbfa7c411a5ce1ff8c56bada73f86", func := "ceefax/ceefaxlaw25.ProtoModes", spec := "protoModes", apart := false, narrowed := true }
def ProtoModesUptoSaid : Prop := protoModesUptoRow.holds Try.pinned (OpenSpec.upto protoModesSpec)

/-- 'ceefaxlaw25.ProtoLinks', WHERE WHAT IT READS IS OF BULK AT MOST 1048576: true; the input reads as it did. -/
def protoLinksUptoRow : OpenClaim := { program := "ytnkpmgefeijffaa", sum := "1159fca32e2d6691050cabc1dd5666cc2e4dbfa7c411a5ce1ff8c56bada73f86", func := "ceefax/ceefaxlaw25.ProtoLinks", spec := "protoLinks", apart := false, narrowed := true }
def ProtoLinksUptoSaid : Prop := protoLinksUptoRow.holds Try.pinned (OpenSpec.upto protoLinksSpec)

/-- 'ceefaxlaw25.ProtoQuiet', WHERE WHAT IT READS IS OF BULK AT MOST 1048576: true; the input reads as it did. -/
def protoQuietUptoRow : OpenClaim := { program := "ytnkpmgefeijffaa", sum := "1159fca32e2d6691050cabc1dd5666cc2e4dbfa7c411a5ce1ff8c56bada73f86", func := "ceefax/ceefaxlaw25.ProtoQuiet", spec := "protoQuiet", apart := false, narrowed := true }
def ProtoQuietUptoSaid : Prop := protoQuietUptoRow.holds Try.pinned (OpenSpec.upto protoQuietSpec)

/-- 'ceefaxlaw25.ProtoSpeeds', WHERE WHAT IT READS IS OF BULK AT MOST 1048576: true; the input reads as it did. -/
def protoSpeedsUptoRow : OpenClaim := { program := "ytnkpmgefeijffaa", sum := "1159fca32e2d6691050cabc1dd5666cc2e4dbfa7c411a5ce1ff8c56bada73f86", func := "ceefax/ceefaxlaw25.ProtoSpeeds", spec := "protoSpeeds", apart := false, narrowed := true }
def ProtoSpeedsUptoSaid : Prop := protoSpeedsUptoRow.holds Try.pinned (OpenSpec.upto protoSpeedsSpec)

/-- 'ceefaxlaw25.ProtoBoards', WHERE WHAT IT READS IS OF BULK AT MOST 1048576: true; the input reads as it did. -/
def protoBoardsUptoRow : OpenClaim := { program := "ytnkpmgefeijffaa", sum := "1159fca32e2d6691050cabc1dd5666cc2e4dbfa7c411a5ce1ff8c56bada73f86", func := "ceefax/ceefaxlaw25.ProtoBoards", spec := "protoBoards", apart := false, narrowed := true }
def ProtoBoardsUptoSaid : Prop := protoBoardsUptoRow.holds Try.pinned (OpenSpec.upto protoBoardsSpec)

end Rows
end Go.Proofs.Ytnkpmgefeijffaa
