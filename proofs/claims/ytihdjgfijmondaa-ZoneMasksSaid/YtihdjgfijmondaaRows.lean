/-
  No cell of these rows narrows 'for every input' (looked for: loops, veiled, ifaces, maps, wideKeys, modest, calm, conditions, laid).
  DERIVED. THE GIVEN ROWS OF THIS SEAT. 4 by the template 'for every input the law returns true; each argument reads behind the call as it read before'; 0 by the template 'total and deterministic' (their statements: YtihdjgfijmondaaTotals.lean).
  GIVEN WITH THE SEED: the statements are not yours to turn. If you find one false, say at which input.
  Laid BY PROGRAM, IN A SANDBOX (cutbox-rows.mjs): the forced cells as the released guide's own fill.sh prints them over the translation 938b3b5ab41c4234… (all of the seat's roots in one cut). By AI agents, Wed Nov 11 2026. No macro, syntax, notation, axiom, sorry.
-/
import Derived.Test.YtihdjgfijmondaaChecked
import GoSem.Claim
import GoSem.ClaimJoined
import GoSem.ClaimMapViews
import Derived.JoinedTies
import Derived.KernelRfl
namespace Go.Proofs.Ytihdjgfijmondaa
/- THE CELL 'sum', in the pinned program and in every row, IS THE sha256 OF THE DUMP (.gsa) THAT YtihdjgfijmondaaProg.lean LOADS. Nothing in Lean hashes anything: it is a label: what it is worth is what the hold of that sum in a sandbox is worth. -/
noncomputable def Try.pinned : Pinned := { name := "ytihdjgfijmondaa", sum := "938b3b5ab41c423472785b427051c6dc70ef6fd7519d3fca086801ade3990047", checked := Try.checked }
namespace Rows
def none {H : Type} : Left H := { results := [], args := [] }

/-- 'ceefaxlaw22.ZoneSays': WHATEVER THE INPUT: true; the input reads as it did. -/
def zoneSaysSpec : ChangeSpec := { name := "zoneSays", fn := fun _ => fun
  | [d1, d2] => { results := [.lit (.bool true)], args := [d1, d2] }
  | _ => none }
def zoneSaysRow : OpenClaim := { program := "ytihdjgfijmondaa", sum := "938b3b5ab41c423472785b427051c6dc70ef6fd7519d3fca086801ade3990047", func := "ceefax/ceefaxlaw22.ZoneSays", spec := "zoneSays", apart := false }
def ZoneSaysSaid : Prop := zoneSaysRow.holds Try.pinned (OpenSpec.ofChange zoneSaysSpec)

/-- ITS FALSE NEIGHBOUR: 'it returns false'. Refute it at one input. -/
def zoneSaysWrong : ChangeSpec := { name := "zoneSays", fn := fun _ => fun
  | [d1, d2] => { results := [.lit (.bool false)], args := [d1, d2] }
  | _ => none }
def ZoneSaysWrongFalsely : Prop := zoneSaysRow.holds Try.pinned (OpenSpec.ofChange zoneSaysWrong)

/-- 'ceefaxlaw22.ZoneColours': WHATEVER THE INPUT: true; the input reads as it did. -/
def zoneColoursSpec : ChangeSpec := { name := "zoneColours", fn := fun _ => fun
  | [d1, d2, d3] => { results := [.lit (.bool true)], args := [d1, d2, d3] }
  | _ => none }
def zoneColoursRow : OpenClaim := { program := "ytihdjgfijmondaa", sum := "938b3b5ab41c423472785b427051c6dc70ef6fd7519d3fca086801ade3990047", func := "ceefax/ceefaxlaw22.ZoneColours", spec := "zoneColours", apart := false }
def ZoneColoursSaid : Prop := zoneColoursRow.holds Try.pinned (OpenSpec.ofChange zoneColoursSpec)

/-- ITS FALSE NEIGHBOUR: 'it returns false'. Refute it at one input. -/
def zoneColoursWrong : ChangeSpec := { name := "zoneColours", fn := fun _ => fun
  | [d1, d2, d3] => { results := [.lit (.bool false)], args := [d1, d2, d3] }
  | _ => none }
def ZoneColoursWrongFalsely : Prop := zoneColoursRow.holds Try.pinned (OpenSpec.ofChange zoneColoursWrong)

/-- 'ceefaxlaw22.ZoneMasks': WHATEVER THE INPUT: true; the input reads as it did. -/
def zoneMasksSpec : ChangeSpec := { name := "zoneMasks", fn := fun _ => fun
  | [d1, d2, d3, d4] => { results := [.lit (.bool true)], args := [d1, d2, d3, d4] }
  | _ => none }
def zoneMasksRow : OpenClaim := { program := "ytihdjgfijmondaa", sum := "938b3b5ab41c423472785b427051c6dc70ef6fd7519d3fca086801ade3990047", func := "ceefax/ceefaxlaw22.ZoneMasks", spec := "zoneMasks", apart := false }
def ZoneMasksSaid : Prop := zoneMasksRow.holds Try.pinned (OpenSpec.ofChange zoneMasksSpec)

/-- ITS FALSE NEIGHBOUR: 'it returns false'. Refute it at one input. -/
def zoneMasksWrong : ChangeSpec := { name := "zoneMasks", fn := fun _ => fun
  | [d1, d2, d3, d4] => { results := [.lit (.bool false)], args := [d1, d2, d3, d4] }
  | _ => none }
def ZoneMasksWrongFalsely : Prop := zoneMasksRow.holds Try.pinned (OpenSpec.ofChange zoneMasksWrong)

/-- 'ceefaxlaw22.ZoneKeeps': WHATEVER THE INPUT: true; the input reads as it did. -/
def zoneKeepsSpec : ChangeSpec := { name := "zoneKeeps", fn := fun _ => fun
  | [d1, d2, d3] => { results := [.lit (.bool true)], args := [d1, d2, d3] }
  | _ => none }
def zoneKeepsRow : OpenClaim := { program := "ytihdjgfijmondaa", sum := "938b3b5ab41c423472785b427051c6dc70ef6fd7519d3fca086801ade3990047", func := "ceefax/ceefaxlaw22.ZoneKeeps", spec := "zoneKeeps", apart := false }
def ZoneKeepsSaid : Prop := zoneKeepsRow.holds Try.pinned (OpenSpec.ofChange zoneKeepsSpec)

/-- ITS FALSE NEIGHBOUR: 'it returns false'. Refute it at one input. -/
def zoneKeepsWrong : ChangeSpec := { name := "zoneKeeps", fn := fun _ => fun
  | [d1, d2, d3] => { results := [.lit (.bool false)], args := [d1, d2, d3] }
  | _ => none }
def ZoneKeepsWrongFalsely : Prop := zoneKeepsRow.holds Try.pinned (OpenSpec.ofChange zoneKeepsWrong)

/- THE SECOND FORM. 'bulk': how many values and letters a reading holds, each counted each time it is reached (what is shared counts as often as it is met; a slice's spare places count too). A statement '..UptoSaid' is the law's where the arguments, and the package variables that the reading takes, are together of bulk at most 1048576: NARROWER than '..Said'. Prove '..Said' where nothing that the law and all that it calls make is longer than what came in: it says more and counts as full. Else prove '..UptoSaid'. A law counts once. -/
mutual
def uptoBulk {H : Type} : DataW H → Nat
  | .lit (.string bytes) => bytes.length + 1
  | .lit _ => 1
  | .nil => 1
  | .ptr d => uptoBulk d + 1
  | .slice elems spare => uptoBulkAll elems + uptoBulkAll spare + 1
  | .agg parts => uptoBulkAll parts + 1
  | .iface _ d => uptoBulk d + 1
  | .map entries => uptoBulkEntries entries + 1
  | .held _ => 1
def uptoBulkAll {H : Type} : List (DataW H) → Nat
  | [] => 0
  | d :: r => uptoBulk d + uptoBulkAll r
def uptoBulkEntries {H : Type} : List (Lit × DataW H) → Nat
  | [] => 0
  | x :: r => uptoBulkEntry x + uptoBulkEntries r
def uptoBulkEntry {H : Type} : Lit × DataW H → Nat
  | (.string bytes, d) => bytes.length + uptoBulk d + 1
  | (_, d) => uptoBulk d + 1
 end
def uptoSmall : (H : Type) → List (DataW H) → Bool := fun _ ds => decide (uptoBulkAll ds ≤ 1048576)
def OpenSpec.upto (s : _root_.Go.ChangeSpec) : _root_.Go.OpenSpec := { _root_.Go.OpenSpec.ofChange s with cond := some uptoSmall }

/-- 'ceefaxlaw22.ZoneSays', WHERE WHAT IT READS IS OF BULK AT MOST 1048576: true; the input reads as it did. -/
def zoneSaysUptoRow : OpenClaim := { program := "ytihdjgfijmondaa", sum := "938b3b5ab41c423472785b427051c6dc70ef6fd7519d3fca086801ade3990047", func := "ceefax/ceefaxlaw22.ZoneSays", spec := "zoneSays", apart := false, narrowed := true }
def ZoneSaysUptoSaid : Prop := zoneSaysUptoRow.holds Try.pinned (OpenSpec.upto zoneSaysSpec)

/-- 'ceefaxlaw22.ZoneColours', WHERE WHAT IT READS IS OF BULK AT MOST 1048576: true; the input reads as it did. -/
def zoneColoursUptoRow : OpenClaim := { program := "ytihdjgfijmondaa", sum := "938b3b5ab41c423472785b427051c6dc70ef6fd7519d3fca086801ade3990047", func := "ceefax/ceefaxlaw22.ZoneColours", spec := "zoneColours", apart := false, narrowed := true }
def ZoneColoursUptoSaid : Prop := zoneColoursUptoRow.holds Try.pinned (OpenSpec.upto zoneColoursSpec)

/-- 'ceefaxlaw22.ZoneMasks', WHERE WHAT IT READS IS OF BULK AT MOST 1048576: true; the input reads as it did. -/
def zoneMasksUptoRow : OpenClaim := { program := "ytihdjgfijmondaa", sum := "938b3b5ab41c423472785b427051c6dc70ef6fd7519d3fca086801ade3990047", func := "ceefax/ceefaxlaw22.ZoneMasks", spec := "zoneMasks", apart := false, narrowed := true }
def ZoneMasksUptoSaid : Prop := zoneMasksUptoRow.holds Try.pinned (OpenSpec.upto zoneMasksSpec)

/-- 'ceefaxlaw22.ZoneKeeps', WHERE WHAT IT READS IS OF BULK AT MOST 1048576: true; the input reads as it did. -/
def zoneKeepsUptoRow : OpenClaim := { program := "ytihdjgfijmondaa", sum := "938b3b5ab41c423472785b427051c6dc70ef6fd7519d3fca086801ade3990047", func := "ceefax/ceefaxlaw22.ZoneKeeps", spec := "zoneKeeps", apart := false, narrowed := true }
def ZoneKeepsUptoSaid : Prop := zoneKeepsUptoRow.holds Try.pinned (OpenSpec.upto zoneKeepsSpec)

end Rows
end Go.Proofs.Ytihdjgfijmondaa
