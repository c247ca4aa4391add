/-
  No cell of these rows narrows 'for every input' (looked for: loops, veiled, ifaces, maps, wideKeys, modest, calm, conditions, laid).
  DERIVED. THE GIVEN ROWS OF THIS SEAT. 7 by the template 'for every input the law returns true; each argument reads behind the call as it read before'; 0 by the template 'total and deterministic' (their statements: YtaohdpebkongmaaTotals.lean).
  GIVEN WITH THE SEED: the statements are not yours to turn. If you find one false, say at which input.
  Laid BY PROGRAM, IN A SANDBOX (cutbox-rows.mjs): the forced cells as the released guide's own fill.sh prints them over the translation 6ea9baa4abb5af14… (all of the seat's roots in one cut). By AI agents, Wed Nov 11 2026. No macro, syntax, notation, axiom, sorry.
-/
import Derived.Test.YtaohdpebkongmaaChecked
import GoSem.Claim
import GoSem.ClaimJoined
import GoSem.ClaimMapViews
import Derived.JoinedTies
import Derived.KernelRfl
namespace Go.Proofs.Ytaohdpebkongmaa
/- THE CELL 'sum', in the pinned program and in every row, IS THE sha256 OF THE DUMP (.gsa) THAT YtaohdpebkongmaaProg.lean LOADS. Nothing in Lean hashes anything: it is a label: what it is worth is what the hold of that sum in a sandbox is worth. -/
noncomputable def Try.pinned : Pinned := { name := "ytaohdpebkongmaa", sum := "6ea9baa4abb5af14017b822346a63fd035573f21445b14556e154822a6a78738", checked := Try.checked }
namespace Rows
def none {H : Type} : Left H := { results := [], args := [] }

/-- 'ceefaxlaw15.AttrSays': WHATEVER THE INPUT: true; the input reads as it did. -/
def attrSaysSpec : ChangeSpec := { name := "attrSays", fn := fun _ => fun
  | [d1, d2, d3, d4] => { results := [.lit (.bool true)], args := [d1, d2, d3, d4] }
  | _ => none }
def attrSaysRow : OpenClaim := { program := "ytaohdpebkongmaa", sum := "6ea9baa4abb5af14017b822346a63fd035573f21445b14556e154822a6a78738", func := "ceefax/ceefaxlaw15.AttrSays", spec := "attrSays", inPlace := ["internal/bytealg.IndexByte"], apart := false }
def AttrSaysSaid : Prop := attrSaysRow.holds Try.pinned (OpenSpec.ofChange attrSaysSpec)

/-- ITS FALSE NEIGHBOUR: 'it returns false'. Refute it at one input. -/
def attrSaysWrong : ChangeSpec := { name := "attrSays", fn := fun _ => fun
  | [d1, d2, d3, d4] => { results := [.lit (.bool false)], args := [d1, d2, d3, d4] }
  | _ => none }
def AttrSaysWrongFalsely : Prop := attrSaysRow.holds Try.pinned (OpenSpec.ofChange attrSaysWrong)

/-- 'ceefaxlaw15.AttrLeft': WHATEVER THE INPUT: true; the input reads as it did. -/
def attrLeftSpec : ChangeSpec := { name := "attrLeft", fn := fun _ => fun
  | [d1, d2, d3, d4] => { results := [.lit (.bool true)], args := [d1, d2, d3, d4] }
  | _ => none }
def attrLeftRow : OpenClaim := { program := "ytaohdpebkongmaa", sum := "6ea9baa4abb5af14017b822346a63fd035573f21445b14556e154822a6a78738", func := "ceefax/ceefaxlaw15.AttrLeft", spec := "attrLeft", inPlace := ["internal/bytealg.IndexByte"], apart := false }
def AttrLeftSaid : Prop := attrLeftRow.holds Try.pinned (OpenSpec.ofChange attrLeftSpec)

/-- ITS FALSE NEIGHBOUR: 'it returns false'. Refute it at one input. -/
def attrLeftWrong : ChangeSpec := { name := "attrLeft", fn := fun _ => fun
  | [d1, d2, d3, d4] => { results := [.lit (.bool false)], args := [d1, d2, d3, d4] }
  | _ => none }
def AttrLeftWrongFalsely : Prop := attrLeftRow.holds Try.pinned (OpenSpec.ofChange attrLeftWrong)

/-- 'ceefaxlaw15.AttrColours': WHATEVER THE INPUT: true; the input reads as it did. -/
def attrColoursSpec : ChangeSpec := { name := "attrColours", fn := fun _ => fun
  | [d1, d2] => { results := [.lit (.bool true)], args := [d1, d2] }
  | _ => none }
def attrColoursRow : OpenClaim := { program := "ytaohdpebkongmaa", sum := "6ea9baa4abb5af14017b822346a63fd035573f21445b14556e154822a6a78738", func := "ceefax/ceefaxlaw15.AttrColours", spec := "attrColours", inPlace := ["internal/bytealg.IndexByte"], apart := false }
def AttrColoursSaid : Prop := attrColoursRow.holds Try.pinned (OpenSpec.ofChange attrColoursSpec)

/-- ITS FALSE NEIGHBOUR: 'it returns false'. Refute it at one input. -/
def attrColoursWrong : ChangeSpec := { name := "attrColours", fn := fun _ => fun
  | [d1, d2] => { results := [.lit (.bool false)], args := [d1, d2] }
  | _ => none }
def AttrColoursWrongFalsely : Prop := attrColoursRow.holds Try.pinned (OpenSpec.ofChange attrColoursWrong)

/-- 'ceefaxlaw15.AttrHolds': WHATEVER THE INPUT: true; the input reads as it did. -/
def attrHoldsSpec : ChangeSpec := { name := "attrHolds", fn := fun _ => fun
  | [d1, d2, d3, d4] => { results := [.lit (.bool true)], args := [d1, d2, d3, d4] }
  | _ => none }
def attrHoldsRow : OpenClaim := { program := "ytaohdpebkongmaa", sum := "6ea9baa4abb5af14017b822346a63fd035573f21445b14556e154822a6a78738", func := "ceefax/ceefaxlaw15.AttrHolds", spec := "attrHolds", inPlace := ["internal/bytealg.IndexByte"], apart := false }
def AttrHoldsSaid : Prop := attrHoldsRow.holds Try.pinned (OpenSpec.ofChange attrHoldsSpec)

/-- ITS FALSE NEIGHBOUR: 'it returns false'. Refute it at one input. -/
def attrHoldsWrong : ChangeSpec := { name := "attrHolds", fn := fun _ => fun
  | [d1, d2, d3, d4] => { results := [.lit (.bool false)], args := [d1, d2, d3, d4] }
  | _ => none }
def AttrHoldsWrongFalsely : Prop := attrHoldsRow.holds Try.pinned (OpenSpec.ofChange attrHoldsWrong)

/-- 'ceefaxlaw15.AttrBoxes': WHATEVER THE INPUT: true; the input reads as it did. -/
def attrBoxesSpec : ChangeSpec := { name := "attrBoxes", fn := fun _ => fun
  | [d1, d2, d3] => { results := [.lit (.bool true)], args := [d1, d2, d3] }
  | _ => none }
def attrBoxesRow : OpenClaim := { program := "ytaohdpebkongmaa", sum := "6ea9baa4abb5af14017b822346a63fd035573f21445b14556e154822a6a78738", func := "ceefax/ceefaxlaw15.AttrBoxes", spec := "attrBoxes", inPlace := ["internal/bytealg.IndexByte"], apart := false }
def AttrBoxesSaid : Prop := attrBoxesRow.holds Try.pinned (OpenSpec.ofChange attrBoxesSpec)

/-- ITS FALSE NEIGHBOUR: 'it returns false'. Refute it at one input. -/
def attrBoxesWrong : ChangeSpec := { name := "attrBoxes", fn := fun _ => fun
  | [d1, d2, d3] => { results := [.lit (.bool false)], args := [d1, d2, d3] }
  | _ => none }
def AttrBoxesWrongFalsely : Prop := attrBoxesRow.holds Try.pinned (OpenSpec.ofChange attrBoxesWrong)

/-- 'ceefaxlaw15.AttrMosaics': WHATEVER THE INPUT: true; the input reads as it did. -/
def attrMosaicsSpec : ChangeSpec := { name := "attrMosaics", fn := fun _ => fun
  | [d1, d2, d3, d4] => { results := [.lit (.bool true)], args := [d1, d2, d3, d4] }
  | _ => none }
def attrMosaicsRow : OpenClaim := { program := "ytaohdpebkongmaa", sum := "6ea9baa4abb5af14017b822346a63fd035573f21445b14556e154822a6a78738", func := "ceefax/ceefaxlaw15.AttrMosaics", spec := "attrMosaics", inPlace := ["internal/bytealg.IndexByte"], apart := false }
def AttrMosaicsSaid : Prop := attrMosaicsRow.holds Try.pinned (OpenSpec.ofChange attrMosaicsSpec)

/-- ITS FALSE NEIGHBOUR: 'it returns false'. Refute it at one input. -/
def attrMosaicsWrong : ChangeSpec := { name := "attrMosaics", fn := fun _ => fun
  | [d1, d2, d3, d4] => { results := [.lit (.bool false)], args := [d1, d2, d3, d4] }
  | _ => none }
def AttrMosaicsWrongFalsely : Prop := attrMosaicsRow.holds Try.pinned (OpenSpec.ofChange attrMosaicsWrong)

/-- 'ceefaxlaw15.AttrAfter': WHATEVER THE INPUT: true; the input reads as it did. -/
def attrAfterSpec : ChangeSpec := { name := "attrAfter", fn := fun _ => fun
  | [d1, d2] => { results := [.lit (.bool true)], args := [d1, d2] }
  | _ => none }
def attrAfterRow : OpenClaim := { program := "ytaohdpebkongmaa", sum := "6ea9baa4abb5af14017b822346a63fd035573f21445b14556e154822a6a78738", func := "ceefax/ceefaxlaw15.AttrAfter", spec := "attrAfter", inPlace := ["internal/bytealg.IndexByte"], apart := false }
def AttrAfterSaid : Prop := attrAfterRow.holds Try.pinned (OpenSpec.ofChange attrAfterSpec)

/-- ITS FALSE NEIGHBOUR: 'it returns false'. Refute it at one input. -/
def attrAfterWrong : ChangeSpec := { name := "attrAfter", fn := fun _ => fun
  | [d1, d2] => { results := [.lit (.bool false)], args := [d1, d2] }
  | _ => none }
def AttrAfterWrongFalsely : Prop := attrAfterRow.holds Try.pinned (OpenSpec.ofChange attrAfterWrong)

/- THE SECOND FORM. 'bulk': how many values and letters a reading holds, each counted each time it is reached (what is shared counts as often as it is met; a slice's spare places count too). A statement '..UptoSaid' is the law's where the arguments, and the package variables that the reading takes, are together of bulk at most 1048576: NARROWER than '..Said'. Prove '..Said' where nothing that the law and all that it calls make is longer than what came in: it says more and counts as full. Else prove '..UptoSaid'. A law counts once. -/
mutual
def uptoBulk {H : Type} : DataW H → Nat
  | .lit (.string bytes) => bytes.length + 1
  | .lit _ => 1
  | .nil => 1
  | .ptr d => uptoBulk d + 1
  | .slice elems spare => uptoBulkAll elems + uptoBulkAll spare + 1
  | .agg parts => uptoBulkAll parts + 1
  | .iface _ d => uptoBulk d + 1
  | .map entries => uptoBulkEntries entries + 1
  | .held _ => 1
def uptoBulkAll {H : Type} : List (DataW H) → Nat
  | [] => 0
  | d :: r => uptoBulk d + uptoBulkAll r
def uptoBulkEntries {H : Type} : List (Lit × DataW H) → Nat
  | [] => 0
  | x :: r => uptoBulkEntry x + uptoBulkEntries r
def uptoBulkEntry {H : Type} : Lit × DataW H → Nat
  | (.string bytes, d) => bytes.length + uptoBulk d + 1
  | (_, d) => uptoBulk d + 1
 end
def uptoSmall : (H : Type) → List (DataW H) → Bool := fun _ ds => decide (uptoBulkAll ds ≤ 1048576)
def OpenSpec.upto (s : _root_.Go.ChangeSpec) : _root_.Go.OpenSpec := { _root_.Go.OpenSpec.ofChange s with cond := some uptoSmall }

/-- 'ceefaxlaw15.AttrSays', WHERE WHAT IT READS IS OF BULK AT MOST 1048576: true; the input reads as it did. -/
def attrSaysUptoRow : OpenClaim := { program := "ytaohdpebkongmaa", sum := "6ea9baa4abb5af14017b822346a63fd035573f21445b14556e154822a6a78738", func := "ceefax/ceefaxlaw15.AttrSays", spec := "attrSays", inPlace := ["internal/bytealg.IndexByte"], apart := false, narrowed := true }
def AttrSaysUptoSaid : Prop := attrSaysUptoRow.holds Try.pinned (OpenSpec.upto attrSaysSpec)

/-- 'ceefaxlaw15.AttrLeft', WHERE WHAT IT READS IS OF BULK AT MOST 1048576: true; the input reads as it did. -/
def attrLeftUptoRow : OpenClaim := { program := "ytaohdpebkongmaa", sum := "6ea9baa4abb5af14017b822346a63fd035573f21445b14556e154822a6a78738", func := "ceefax/ceefaxlaw15.AttrLeft", spec := "attrLeft", inPlace := ["internal/bytealg.IndexByte"], apart := false, narrowed := true }
def AttrLeftUptoSaid : Prop := attrLeftUptoRow.holds Try.pinned (OpenSpec.upto attrLeftSpec)

/-- 'ceefaxlaw15.AttrColours', WHERE WHAT IT READS IS OF BULK AT MOST 1048576: true; the input reads as it did. -/
def attrColoursUptoRow : OpenClaim := { program := "ytaohdpebkongmaa", sum := "6ea9baa4abb5af14017b822346a63fd035573f21445b14556e154822a6a78738", func := "ceefax/ceefaxlaw15.AttrColours", spec := "attrColours", inPlace := ["internal/bytealg.IndexByte"], apart := false, narrowed := true }
def AttrColoursUptoSaid : Prop := attrColoursUptoRow.holds Try.pinned (OpenSpec.upto attrColoursSpec)

/-- 'ceefaxlaw15.AttrHolds', WHERE WHAT IT READS IS OF BULK AT MOST 1048576: true; the input reads as it did. -/
def attrHoldsUptoRow : OpenClaim := { program := "ytaohdpebkongmaa", sum := "6ea9baa4abb5af14017b822346a63fd035573f21445b14556e154822a6a78738", func := "ceefax/ceefaxlaw15.AttrHolds", spec := "attrHolds", inPlace := ["internal/bytealg.IndexByte"], apart := false, narrowed := true }
def AttrHoldsUptoSaid : Prop := attrHoldsUptoRow.holds Try.pinned (OpenSpec.upto attrHoldsSpec)

/-- 'ceefaxlaw15.AttrBoxes', WHERE WHAT IT READS IS OF BULK AT MOST 1048576: true; the input reads as it did. -/
def attrBoxesUptoRow : OpenClaim := { program := "ytaohdpebkongmaa", sum := "6ea9baa4abb5af14017b822346a63fd035573f21445b14556e154822a6a78738", func := "ceefax/ceefaxlaw15.AttrBoxes", spec := "attrBoxes", inPlace := ["internal/bytealg.IndexByte"], apart := false, narrowed := true }
def AttrBoxesUptoSaid : Prop := attrBoxesUptoRow.holds Try.pinned (OpenSpec.upto attrBoxesSpec)

/-- 'ceefaxlaw15.AttrMosaics', WHERE WHAT IT READS IS OF BULK AT MOST 1048576: true; the input reads as it did. -/
def attrMosaicsUptoRow : OpenClaim := { program := "ytaohdpebkongmaa", sum := "6ea9baa4abb5af14017b822346a63fd035573f21445b14556e154822a6a78738", func := "ceefax/ceefaxlaw15.AttrMosaics", spec := "attrMosaics", inPlace := ["internal/bytealg.IndexByte"], apart := false, narrowed := true }
def AttrMosaicsUptoSaid : Prop := attrMosaicsUptoRow.holds Try.pinned (OpenSpec.upto attrMosaicsSpec)

/-- 'ceefaxlaw15.AttrAfter', WHERE WHAT IT READS IS OF BULK AT MOST 1048576: true; the input reads as it did. -/
def attrAfterUptoRow : OpenClaim := { program := "ytaohdpebkongmaa", sum := "6ea9baa4abb5af14017b822346a63fd035573f21445b14556e154822a6a78738", func := "ceefax/ceefaxlaw15.AttrAfter", spec := "attrAfter", inPlace := ["internal/bytealg.IndexByte"], apart := false, narrowed := true }
def AttrAfterUptoSaid : Prop := attrAfterUptoRow.holds Try.pinned (OpenSpec.upto attrAfterSpec)

end Rows
end Go.Proofs.Ytaohdpebkongmaa
