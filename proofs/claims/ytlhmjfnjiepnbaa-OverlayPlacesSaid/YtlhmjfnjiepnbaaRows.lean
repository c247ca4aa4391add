/-
  No cell of these rows narrows 'for every input' (looked for: loops, veiled, ifaces, maps, wideKeys, modest, calm, conditions, laid).
  DERIVED. THE GIVEN ROWS OF THIS SEAT. 2 by the template 'for every input the law returns true; each argument reads behind the call as it read before'; 0 by the template 'total and deterministic' (their statements: YtlhmjfnjiepnbaaTotals.lean).
  GIVEN WITH THE SEED: the statements are not yours to turn. If you find one false, say at which input.
  Laid BY PROGRAM, IN A SANDBOX (cutbox-rows.mjs): the forced cells as the released guide's own fill.sh prints them over the translation 67647054e584234d… (all of the seat's roots in one cut). By AI agents, Wed Nov 11 2026. No macro, syntax, notation, axiom, sorry.
-/
import Derived.Test.YtlhmjfnjiepnbaaChecked
import GoSem.Claim
import GoSem.ClaimJoined
import GoSem.ClaimMapViews
import Derived.JoinedTies
import Derived.KernelRfl
namespace Go.Proofs.Ytlhmjfnjiepnbaa
/- THE CELL 'sum', in the pinned program and in every row, IS THE sha256 OF THE DUMP (.gsa) THAT YtlhmjfnjiepnbaaProg.lean LOADS. Nothing in Lean hashes anything: it is a label: what it is worth is what the hold of that sum in a sandbox is worth. -/
noncomputable def Try.pinned : Pinned := { name := "ytlhmjfnjiepnbaa", sum := "67647054e584234de1d293f5387470ae0948e767cd2bdf346346601135f345ee", checked := Try.checked }
namespace Rows
def none {H : Type} : Left H := { results := [], args := [] }

/-- 'ceefaxlaw16.OverlayPlaces': WHATEVER THE INPUT: true; the input reads as it did. -/
def overlayPlacesSpec : ChangeSpec := { name := "overlayPlaces", fn := fun _ => fun
  | [d1, d2, d3, d4] => { results := [.lit (.bool true)], args := [d1, d2, d3, d4] }
  | _ => none }
def overlayPlacesRow : OpenClaim := { program := "ytlhmjfnjiepnbaa", sum := "67647054e584234de1d293f5387470ae0948e767cd2bdf346346601135f345ee", func := "ceefax/ceefaxlaw16.OverlayPlaces", spec := "overlayPlaces", apart := false }
def OverlayPlacesSaid : Prop := overlayPlacesRow.holds Try.pinned (OpenSpec.ofChange overlayPlacesSpec)

/-- ITS FALSE NEIGHBOUR: 'it returns false'. Refute it at one input. -/
def overlayPlacesWrong : ChangeSpec := { name := "overlayPlaces", fn := fun _ => fun
  | [d1, d2, d3, d4] => { results := [.lit (.bool false)], args := [d1, d2, d3, d4] }
  | _ => none }
def OverlayPlacesWrongFalsely : Prop := overlayPlacesRow.holds Try.pinned (OpenSpec.ofChange overlayPlacesWrong)

/-- 'ceefaxlaw16.OverlayMarks': WHATEVER THE INPUT: true; the input reads as it did. -/
def overlayMarksSpec : ChangeSpec := { name := "overlayMarks", fn := fun _ => fun
  | [d1, d2, d3] => { results := [.lit (.bool true)], args := [d1, d2, d3] }
  | _ => none }
def overlayMarksRow : OpenClaim := { program := "ytlhmjfnjiepnbaa", sum := "67647054e584234de1d293f5387470ae0948e767cd2bdf346346601135f345ee", func := "ceefax/ceefaxlaw16.OverlayMarks", spec := "overlayMarks", apart := false }
def OverlayMarksSaid : Prop := overlayMarksRow.holds Try.pinned (OpenSpec.ofChange overlayMarksSpec)

/-- ITS FALSE NEIGHBOUR: 'it returns false'. Refute it at one input. -/
def overlayMarksWrong : ChangeSpec := { name := "overlayMarks", fn := fun _ => fun
  | [d1, d2, d3] => { results := [.lit (.bool false)], args := [d1, d2, d3] }
  | _ => none }
def OverlayMarksWrongFalsely : Prop := overlayMarksRow.holds Try.pinned (OpenSpec.ofChange overlayMarksWrong)

/- THE SECOND FORM. 'bulk': how many values and letters a reading holds, each counted each time it is reached (what is shared counts as often as it is met; a slice's spare places count too). A statement '..UptoSaid' is the law's where the arguments, and the package variables that the reading takes, are together of bulk at most 1048576: NARROWER than '..Said'. Prove '..Said' where nothing that the law and all that it calls make is longer than what came in: it says more and counts as full. Else prove '..UptoSaid'. A law counts once. -/
mutual
def uptoBulk {H : Type} : DataW H → Nat
  | .lit (.string bytes) => bytes.length + 1
  | .lit _ => 1
  | .nil => 1
  | .ptr d => uptoBulk d + 1
  | .slice elems spare => uptoBulkAll elems + uptoBulkAll spare + 1
  | .agg parts => uptoBulkAll parts + 1
  | .iface _ d => uptoBulk d + 1
  | .map entries => uptoBulkEntries entries + 1
  | .held _ => 1
def uptoBulkAll {H : Type} : List (DataW H) → Nat
  | [] => 0
  | d :: r => uptoBulk d + uptoBulkAll r
def uptoBulkEntries {H : Type} : List (Lit × DataW H) → Nat
  | [] => 0
  | x :: r => uptoBulkEntry x + uptoBulkEntries r
def uptoBulkEntry {H : Type} : Lit × DataW H → Nat
  | (.string bytes, d) => bytes.length + uptoBulk d + 1
  | (_, d) => uptoBulk d + 1
 end
def uptoSmall : (H : Type) → List (DataW H) → Bool := fun _ ds => decide (uptoBulkAll ds ≤ 1048576)
def OpenSpec.upto (s : _root_.Go.ChangeSpec) : _root_.Go.OpenSpec := { _root_.Go.OpenSpec.ofChange s with cond := some uptoSmall }

/-- 'ceefaxlaw16.OverlayPlaces', WHERE WHAT IT READS IS OF BULK AT MOST 1048576: true; the input reads as it did. -/
def overlayPlacesUptoRow : OpenClaim := { program := "ytlhmjfnjiepnbaa", sum := "67647054e584234de1d293f5387470ae0948e767cd2bdf346346601135f345ee", func := "ceefax/ceefaxlaw16.OverlayPlaces", spec := "overlayPlaces", apart := false, narrowed := true }
def OverlayPlacesUptoSaid : Prop := overlayPlacesUptoRow.holds Try.pinned (OpenSpec.upto overlayPlacesSpec)

/-- 'ceefaxlaw16.OverlayMarks', WHERE WHAT IT READS IS OF BULK AT MOST 1048576: true; the input reads as it did. -/
def overlayMarksUptoRow : OpenClaim := { program := "ytlhmjfnjiepnbaa", sum := "67647054e584234de1d293f5387470ae0948e767cd2bdf346346601135f345ee", func := "ceefax/ceefaxlaw16.OverlayMarks", spec := "overlayMarks", apart := false, narrowed := true }
def OverlayMarksUptoSaid : Prop := overlayMarksUptoRow.holds Try.pinned (OpenSpec.upto overlayMarksSpec)

end Rows
end Go.Proofs.Ytlhmjfnjiepnbaa
