/-
  NARROWER THAN 'FOR EVERY INPUT', by the rows' own cells (each row's printed sentence says how): WholeRolling: laid · WholeTwins: laid · WholeNational: laid · WholeTorn: laid · WholeLetters: laid · WholeBad: laid · WholeEcho: laid · WholeSame: laid.
  DERIVED. THE GIVEN ROWS OF THIS SEAT. 8 by the template 'for every input the law returns true; each argument reads behind the call as it read before'; 0 by the template 'total and deterministic' (their statements: YtbaenaalfpcaaaaGreatDoorTotals.lean).
  GIVEN WITH THE SEED: the statements are not yours to turn. If you find one false, say at which input.
  Laid BY PROGRAM, IN A SANDBOX (cutbox-rows.mjs): the forced cells as the released guide's own fill.sh prints them over the translation b042adbe89469b60… (all of the seat's roots in one cut). By AI agents, Wed Nov 11 2026. No macro, syntax, notation, axiom, sorry.
-/
import Derived.Test.YtbaenaalfpcaaaaGreatDoorChecked
import GoSem.Claim
import GoSem.ClaimJoined
import GoSem.ClaimMapViews
import Derived.JoinedTies
import Derived.KernelRfl
namespace Go.Proofs.YtbaenaalfpcaaaaGreatDoor
/- THE CELL 'sum', in the pinned program and in every row, IS THE sha256 OF THE DUMP (.gsa) THAT YtbaenaalfpcaaaaGreatDoorProg.lean LOADS. Nothing in Lean hashes anything: it is a label: what it is worth is what the hold of that sum in a sandbox is worth. -/
noncomputable def Tryz.pinned : Pinned := { name := "ytbaenaalfpcaaaagreatdoor", sum := "b042adbe89469b6085dce8880d08ecc2550df82fdb1861282a84713ca0b36194", checked := Tryz.checked }
namespace Rows
def none {H : Type} : Left H := { results := [], args := [] }

/- WHAT THE LISTED PACKAGE-LEVEL VARIABLES READ AS WHEN THE CALL BEGINS. Each datum BY PROGRAM (the guide's laid-datum.mjs) off the statement by which the dump's own 'gosem.cut.vars' lays the variable. In a bare row this is a premise. The card (YtbaenaalfpcaaaaGreatDoorCards.lean) ties it to the program's text. -/
def laid_ceefax_api_ErrRange {H : Type} : DataW H := .iface "*errors.errorString" (.ptr (.agg [.lit (.string [97, 32, 110, 117, 109, 98, 101, 114, 32, 111, 117, 116, 32, 111, 102, 32, 105, 116, 115, 32, 114, 97, 110, 103, 101])]))
def laid_ceefax_api_ErrLength {H : Type} : DataW H := .iface "*errors.errorString" (.ptr (.agg [.lit (.string [110, 111, 116, 32, 97, 115, 32, 108, 111, 110, 103, 32, 97, 115, 32, 105, 116, 32, 104, 97, 115, 32, 116, 111, 32, 98, 101])]))
def laid_ceefax_api_ErrBits {H : Type} : DataW H := .iface "*errors.errorString" (.ptr (.agg [.lit (.string [98, 105, 116, 115, 32, 116, 104, 97, 116, 32, 99, 97, 110, 39, 116, 32, 98, 101, 32, 109, 101, 110, 100, 101, 100])]))
def laid_ceefax_api_ErrKind {H : Type} : DataW H := .iface "*errors.errorString" (.ptr (.agg [.lit (.string [111, 102, 32, 97, 110, 111, 116, 104, 101, 114, 32, 107, 105, 110, 100])]))
def laid_ceefax_api_ErrNone {H : Type} : DataW H := .iface "*errors.errorString" (.ptr (.agg [.lit (.string [116, 104, 101, 114, 101, 32, 105, 115, 32, 110, 111, 110, 101])]))
def laid_ceefax_api_ErrMode {H : Type} : DataW H := .iface "*errors.errorString" (.ptr (.agg [.lit (.string [110, 111, 116, 32, 105, 110, 32, 116, 104, 105, 115, 32, 109, 111, 100, 101])]))

/-- 'ceefaxtop.WholeRolling': WHATEVER THE INPUT: true; the input reads as it did. -/
def wholeRollingSpec : ChangeSpec := { name := "wholeRolling", fn := fun _ => fun
  | [d1, d2, d3] => { results := [.lit (.bool true)], args := [d1, d2, d3] }
  | _ => none }
def wholeRollingRow : OpenClaim := { program := "ytbaenaalfpcaaaagreatdoor", sum := "b042adbe89469b6085dce8880d08ecc2550df82fdb1861282a84713ca0b36194", func := "ceefax/ceefaxtop.WholeRolling", spec := "wholeRolling", inPlace := ["internal/abi.NoEscape", "internal/bytealg.IndexByte"], unfollowed := true, recurses := true, named := ["ceefax/api.ErrRange", "ceefax/api.ErrKind", "ceefax/api.ErrLength", "ceefax/api.ErrBits", "ceefax/api.ErrMode", "ceefax/api.ErrNone"], plainKeys := false, apart := false, laid := [("ceefax/api.ErrRange", laid_ceefax_api_ErrRange), ("ceefax/api.ErrLength", laid_ceefax_api_ErrLength), ("ceefax/api.ErrBits", laid_ceefax_api_ErrBits), ("ceefax/api.ErrKind", laid_ceefax_api_ErrKind), ("ceefax/api.ErrNone", laid_ceefax_api_ErrNone), ("ceefax/api.ErrMode", laid_ceefax_api_ErrMode)] }
def WholeRollingSaid : Prop := wholeRollingRow.holds Tryz.pinned (OpenSpec.ofChange wholeRollingSpec)

/-- ITS FALSE NEIGHBOUR: 'it returns false'. Refute it at one input. -/
def wholeRollingWrong : ChangeSpec := { name := "wholeRolling", fn := fun _ => fun
  | [d1, d2, d3] => { results := [.lit (.bool false)], args := [d1, d2, d3] }
  | _ => none }
def WholeRollingWrongFalsely : Prop := wholeRollingRow.holds Tryz.pinned (OpenSpec.ofChange wholeRollingWrong)

/-- 'ceefaxtop.WholeTwins': WHATEVER THE INPUT: true; the input reads as it did. -/
def wholeTwinsSpec : ChangeSpec := { name := "wholeTwins", fn := fun _ => fun
  | [d1, d2] => { results := [.lit (.bool true)], args := [d1, d2] }
  | _ => none }
def wholeTwinsRow : OpenClaim := { program := "ytbaenaalfpcaaaagreatdoor", sum := "b042adbe89469b6085dce8880d08ecc2550df82fdb1861282a84713ca0b36194", func := "ceefax/ceefaxtop.WholeTwins", spec := "wholeTwins", inPlace := ["internal/abi.NoEscape", "internal/bytealg.IndexByte"], unfollowed := true, recurses := true, named := ["ceefax/api.ErrRange", "ceefax/api.ErrKind", "ceefax/api.ErrLength", "ceefax/api.ErrBits", "ceefax/api.ErrMode", "ceefax/api.ErrNone"], plainKeys := false, apart := false, laid := [("ceefax/api.ErrRange", laid_ceefax_api_ErrRange), ("ceefax/api.ErrLength", laid_ceefax_api_ErrLength), ("ceefax/api.ErrBits", laid_ceefax_api_ErrBits), ("ceefax/api.ErrKind", laid_ceefax_api_ErrKind), ("ceefax/api.ErrNone", laid_ceefax_api_ErrNone), ("ceefax/api.ErrMode", laid_ceefax_api_ErrMode)] }
def WholeTwinsSaid : Prop := wholeTwinsRow.holds Tryz.pinned (OpenSpec.ofChange wholeTwinsSpec)

/-- ITS FALSE NEIGHBOUR: 'it returns false'. Refute it at one input. -/
def wholeTwinsWrong : ChangeSpec := { name := "wholeTwins", fn := fun _ => fun
  | [d1, d2] => { results := [.lit (.bool false)], args := [d1, d2] }
  | _ => none }
def WholeTwinsWrongFalsely : Prop := wholeTwinsRow.holds Tryz.pinned (OpenSpec.ofChange wholeTwinsWrong)

/-- 'ceefaxtop.WholeNational': WHATEVER THE INPUT: true; the input reads as it did. -/
def wholeNationalSpec : ChangeSpec := { name := "wholeNational", fn := fun _ => fun
  | [d1, d2, d3, d4] => { results := [.lit (.bool true)], args := [d1, d2, d3, d4] }
  | _ => none }
def wholeNationalRow : OpenClaim := { program := "ytbaenaalfpcaaaagreatdoor", sum := "b042adbe89469b6085dce8880d08ecc2550df82fdb1861282a84713ca0b36194", func := "ceefax/ceefaxtop.WholeNational", spec := "wholeNational", inPlace := ["internal/abi.NoEscape", "internal/bytealg.IndexByte"], unfollowed := true, recurses := true, named := ["ceefax/api.ErrRange", "ceefax/api.ErrKind", "ceefax/api.ErrLength", "ceefax/api.ErrBits", "ceefax/api.ErrMode", "ceefax/api.ErrNone"], plainKeys := false, apart := false, laid := [("ceefax/api.ErrRange", laid_ceefax_api_ErrRange), ("ceefax/api.ErrLength", laid_ceefax_api_ErrLength), ("ceefax/api.ErrBits", laid_ceefax_api_ErrBits), ("ceefax/api.ErrKind", laid_ceefax_api_ErrKind), ("ceefax/api.ErrNone", laid_ceefax_api_ErrNone), ("ceefax/api.ErrMode", laid_ceefax_api_ErrMode)] }
def WholeNationalSaid : Prop := wholeNationalRow.holds Tryz.pinned (OpenSpec.ofChange wholeNationalSpec)

/-- ITS FALSE NEIGHBOUR: 'it returns false'. Refute it at one input. -/
def wholeNationalWrong : ChangeSpec := { name := "wholeNational", fn := fun _ => fun
  | [d1, d2, d3, d4] => { results := [.lit (.bool false)], args := [d1, d2, d3, d4] }
  | _ => none }
def WholeNationalWrongFalsely : Prop := wholeNationalRow.holds Tryz.pinned (OpenSpec.ofChange wholeNationalWrong)

/-- 'ceefaxtop.WholeTorn': WHATEVER THE INPUT: true; the input reads as it did. -/
def wholeTornSpec : ChangeSpec := { name := "wholeTorn", fn := fun _ => fun
  | [d1, d2, d3] => { results := [.lit (.bool true)], args := [d1, d2, d3] }
  | _ => none }
def wholeTornRow : OpenClaim := { program := "ytbaenaalfpcaaaagreatdoor", sum := "b042adbe89469b6085dce8880d08ecc2550df82fdb1861282a84713ca0b36194", func := "ceefax/ceefaxtop.WholeTorn", spec := "wholeTorn", inPlace := ["internal/abi.NoEscape", "internal/bytealg.IndexByte"], unfollowed := true, recurses := true, named := ["ceefax/api.ErrRange", "ceefax/api.ErrKind", "ceefax/api.ErrLength", "ceefax/api.ErrBits", "ceefax/api.ErrMode", "ceefax/api.ErrNone"], plainKeys := false, apart := false, laid := [("ceefax/api.ErrRange", laid_ceefax_api_ErrRange), ("ceefax/api.ErrLength", laid_ceefax_api_ErrLength), ("ceefax/api.ErrBits", laid_ceefax_api_ErrBits), ("ceefax/api.ErrKind", laid_ceefax_api_ErrKind), ("ceefax/api.ErrNone", laid_ceefax_api_ErrNone), ("ceefax/api.ErrMode", laid_ceefax_api_ErrMode)] }
def WholeTornSaid : Prop := wholeTornRow.holds Tryz.pinned (OpenSpec.ofChange wholeTornSpec)

/-- ITS FALSE NEIGHBOUR: 'it returns false'. Refute it at one input. -/
def wholeTornWrong : ChangeSpec := { name := "wholeTorn", fn := fun _ => fun
  | [d1, d2, d3] => { results := [.lit (.bool false)], args := [d1, d2, d3] }
  | _ => none }
def WholeTornWrongFalsely : Prop := wholeTornRow.holds Tryz.pinned (OpenSpec.ofChange wholeTornWrong)

/-- 'ceefaxtop.WholeLetters': WHATEVER THE INPUT: true; the input reads as it did. -/
def wholeLettersSpec : ChangeSpec := { name := "wholeLetters", fn := fun _ => fun
  | [d1, d2, d3, d4, d5] => { results := [.lit (.bool true)], args := [d1, d2, d3, d4, d5] }
  | _ => none }
def wholeLettersRow : OpenClaim := { program := "ytbaenaalfpcaaaagreatdoor", sum := "b042adbe89469b6085dce8880d08ecc2550df82fdb1861282a84713ca0b36194", func := "ceefax/ceefaxtop.WholeLetters", spec := "wholeLetters", inPlace := ["internal/abi.NoEscape", "internal/bytealg.IndexByte"], unfollowed := true, recurses := true, named := ["ceefax/api.ErrRange", "ceefax/api.ErrKind", "ceefax/api.ErrLength", "ceefax/api.ErrBits", "ceefax/api.ErrMode", "ceefax/api.ErrNone"], plainKeys := false, apart := false, laid := [("ceefax/api.ErrRange", laid_ceefax_api_ErrRange), ("ceefax/api.ErrLength", laid_ceefax_api_ErrLength), ("ceefax/api.ErrBits", laid_ceefax_api_ErrBits), ("ceefax/api.ErrKind", laid_ceefax_api_ErrKind), ("ceefax/api.ErrNone", laid_ceefax_api_ErrNone), ("ceefax/api.ErrMode", laid_ceefax_api_ErrMode)] }
def WholeLettersSaid : Prop := wholeLettersRow.holds Tryz.pinned (OpenSpec.ofChange wholeLettersSpec)

/-- ITS FALSE NEIGHBOUR: 'it returns false'. Refute it at one input. -/
def wholeLettersWrong : ChangeSpec := { name := "wholeLetters", fn := fun _ => fun
  | [d1, d2, d3, d4, d5] => { results := [.lit (.bool false)], args := [d1, d2, d3, d4, d5] }
  | _ => none }
def WholeLettersWrongFalsely : Prop := wholeLettersRow.holds Tryz.pinned (OpenSpec.ofChange wholeLettersWrong)

/-- 'ceefaxtop.WholeBad': WHATEVER THE INPUT: true; the input reads as it did. -/
def wholeBadSpec : ChangeSpec := { name := "wholeBad", fn := fun _ => fun
  | [d1, d2] => { results := [.lit (.bool true)], args := [d1, d2] }
  | _ => none }
def wholeBadRow : OpenClaim := { program := "ytbaenaalfpcaaaagreatdoor", sum := "b042adbe89469b6085dce8880d08ecc2550df82fdb1861282a84713ca0b36194", func := "ceefax/ceefaxtop.WholeBad", spec := "wholeBad", inPlace := ["internal/abi.NoEscape", "internal/bytealg.IndexByte"], unfollowed := true, recurses := true, named := ["ceefax/api.ErrRange", "ceefax/api.ErrKind", "ceefax/api.ErrLength", "ceefax/api.ErrBits", "ceefax/api.ErrMode", "ceefax/api.ErrNone"], plainKeys := false, apart := false, laid := [("ceefax/api.ErrRange", laid_ceefax_api_ErrRange), ("ceefax/api.ErrLength", laid_ceefax_api_ErrLength), ("ceefax/api.ErrBits", laid_ceefax_api_ErrBits), ("ceefax/api.ErrKind", laid_ceefax_api_ErrKind), ("ceefax/api.ErrNone", laid_ceefax_api_ErrNone), ("ceefax/api.ErrMode", laid_ceefax_api_ErrMode)] }
def WholeBadSaid : Prop := wholeBadRow.holds Tryz.pinned (OpenSpec.ofChange wholeBadSpec)

/-- ITS FALSE NEIGHBOUR: 'it returns false'. Refute it at one input. -/
def wholeBadWrong : ChangeSpec := { name := "wholeBad", fn := fun _ => fun
  | [d1, d2] => { results := [.lit (.bool false)], args := [d1, d2] }
  | _ => none }
def WholeBadWrongFalsely : Prop := wholeBadRow.holds Tryz.pinned (OpenSpec.ofChange wholeBadWrong)

/-- 'ceefaxtop.WholeEcho': WHATEVER THE INPUT: true; the input reads as it did. -/
def wholeEchoSpec : ChangeSpec := { name := "wholeEcho", fn := fun _ => fun
  | [d] => { results := [.lit (.bool true)], args := [d] }
  | _ => none }
def wholeEchoRow : OpenClaim := { program := "ytbaenaalfpcaaaagreatdoor", sum := "b042adbe89469b6085dce8880d08ecc2550df82fdb1861282a84713ca0b36194", func := "ceefax/ceefaxtop.WholeEcho", spec := "wholeEcho", inPlace := ["internal/abi.NoEscape", "internal/bytealg.IndexByte"], unfollowed := true, recurses := true, named := ["ceefax/api.ErrRange", "ceefax/api.ErrKind", "ceefax/api.ErrLength", "ceefax/api.ErrBits", "ceefax/api.ErrMode", "ceefax/api.ErrNone"], plainKeys := false, apart := false, laid := [("ceefax/api.ErrRange", laid_ceefax_api_ErrRange), ("ceefax/api.ErrLength", laid_ceefax_api_ErrLength), ("ceefax/api.ErrBits", laid_ceefax_api_ErrBits), ("ceefax/api.ErrKind", laid_ceefax_api_ErrKind), ("ceefax/api.ErrNone", laid_ceefax_api_ErrNone), ("ceefax/api.ErrMode", laid_ceefax_api_ErrMode)] }
def WholeEchoSaid : Prop := wholeEchoRow.holds Tryz.pinned (OpenSpec.ofChange wholeEchoSpec)

/-- ITS FALSE NEIGHBOUR: 'it returns false'. Refute it at one input. -/
def wholeEchoWrong : ChangeSpec := { name := "wholeEcho", fn := fun _ => fun
  | [d] => { results := [.lit (.bool false)], args := [d] }
  | _ => none }
def WholeEchoWrongFalsely : Prop := wholeEchoRow.holds Tryz.pinned (OpenSpec.ofChange wholeEchoWrong)

/-- 'ceefaxtop.WholeSame': WHATEVER THE INPUT: true; the input reads as it did. -/
def wholeSameSpec : ChangeSpec := { name := "wholeSame", fn := fun _ => fun
  | [d1, d2, d3] => { results := [.lit (.bool true)], args := [d1, d2, d3] }
  | _ => none }
def wholeSameRow : OpenClaim := { program := "ytbaenaalfpcaaaagreatdoor", sum := "b042adbe89469b6085dce8880d08ecc2550df82fdb1861282a84713ca0b36194", func := "ceefax/ceefaxtop.WholeSame", spec := "wholeSame", inPlace := ["internal/abi.NoEscape", "internal/bytealg.IndexByte"], unfollowed := true, recurses := true, named := ["ceefax/api.ErrRange", "ceefax/api.ErrKind", "ceefax/api.ErrLength", "ceefax/api.ErrBits", "ceefax/api.ErrMode", "ceefax/api.ErrNone"], plainKeys := false, apart := false, laid := [("ceefax/api.ErrRange", laid_ceefax_api_ErrRange), ("ceefax/api.ErrLength", laid_ceefax_api_ErrLength), ("ceefax/api.ErrBits", laid_ceefax_api_ErrBits), ("ceefax/api.ErrKind", laid_ceefax_api_ErrKind), ("ceefax/api.ErrNone", laid_ceefax_api_ErrNone), ("ceefax/api.ErrMode", laid_ceefax_api_ErrMode)] }
def WholeSameSaid : Prop := wholeSameRow.holds Tryz.pinned (OpenSpec.ofChange wholeSameSpec)

/-- ITS FALSE NEIGHBOUR: 'it returns false'. Refute it at one input. -/
def wholeSameWrong : ChangeSpec := { name := "wholeSame", fn := fun _ => fun
  | [d1, d2, d3] => { results := [.lit (.bool false)], args := [d1, d2, d3] }
  | _ => none }
def WholeSameWrongFalsely : Prop := wholeSameRow.holds Tryz.pinned (OpenSpec.ofChange wholeSameWrong)

/- THE SECOND FORM. 'bulk': how many values and letters a reading holds, each counted each time it is reached (what is shared counts as often as it is met; a slice's spare places count too). A statement '..UptoSaid' is the law's where the arguments, and the package variables that the reading takes, are together of bulk at most 1048576: NARROWER than '..Said'. Prove '..Said' where nothing that the law and all that it calls make is longer than what came in: it says more and counts as full. Else prove '..UptoSaid'. A law counts once. -/
mutual
def uptoBulk {H : Type} : DataW H → Nat
  | .lit (.string bytes) => bytes.length + 1
  | .lit _ => 1
  | .nil => 1
  | .ptr d => uptoBulk d + 1
  | .slice elems spare => uptoBulkAll elems + uptoBulkAll spare + 1
  | .agg parts => uptoBulkAll parts + 1
  | .iface _ d => uptoBulk d + 1
  | .map entries => uptoBulkEntries entries + 1
  | .held _ => 1
def uptoBulkAll {H : Type} : List (DataW H) → Nat
  | [] => 0
  | d :: r => uptoBulk d + uptoBulkAll r
def uptoBulkEntries {H : Type} : List (Lit × DataW H) → Nat
  | [] => 0
  | x :: r => uptoBulkEntry x + uptoBulkEntries r
def uptoBulkEntry {H : Type} : Lit × DataW H → Nat
  | (.string bytes, d) => bytes.length + uptoBulk d + 1
  | (_, d) => uptoBulk d + 1
 end
def uptoSmall : (H : Type) → List (DataW H) → Bool := fun _ ds => decide (uptoBulkAll ds ≤ 1048576)
def OpenSpec.upto (s : _root_.Go.ChangeSpec) : _root_.Go.OpenSpec := { _root_.Go.OpenSpec.ofChange s with cond := some uptoSmall }

/-- 'ceefaxtop.WholeRolling', WHERE WHAT IT READS IS OF BULK AT MOST 1048576: true; the input reads as it did. -/
def wholeRollingUptoRow : OpenClaim := { program := "ytbaenaalfpcaaaagreatdoor", sum := "b042adbe89469b6085dce8880d08ecc2550df82fdb1861282a84713ca0b36194", func := "ceefax/ceefaxtop.WholeRolling", spec := "wholeRolling", inPlace := ["internal/abi.NoEscape", "internal/bytealg.IndexByte"], unfollowed := true, recurses := true, named := ["ceefax/api.ErrRange", "ceefax/api.ErrKind", "ceefax/api.ErrLength", "ceefax/api.ErrBits", "ceefax/api.ErrMode", "ceefax/api.ErrNone"], plainKeys := false, apart := false, laid := [("ceefax/api.ErrRange", laid_ceefax_api_ErrRange), ("ceefax/api.ErrLength", laid_ceefax_api_ErrLength), ("ceefax/api.ErrBits", laid_ceefax_api_ErrBits), ("ceefax/api.ErrKind", laid_ceefax_api_ErrKind), ("ceefax/api.ErrNone", laid_ceefax_api_ErrNone), ("ceefax/api.ErrMode", laid_ceefax_api_ErrMode)], narrowed := true }
def WholeRollingUptoSaid : Prop := wholeRollingUptoRow.holds Tryz.pinned (OpenSpec.upto wholeRollingSpec)

/-- 'ceefaxtop.WholeTwins', WHERE WHAT IT READS IS OF BULK AT MOST 1048576: true; the input reads as it did. -/
def wholeTwinsUptoRow : OpenClaim := { program := "ytbaenaalfpcaaaagreatdoor", sum := "b042adbe89469b6085dce8880d08ecc2550df82fdb1861282a84713ca0b36194", func := "ceefax/ceefaxtop.WholeTwins", spec := "wholeTwins", inPlace := ["internal/abi.NoEscape", "internal/bytealg.IndexByte"], unfollowed := true, recurses := true, named := ["ceefax/api.ErrRange", "ceefax/api.ErrKind", "ceefax/api.ErrLength", "ceefax/api.ErrBits", "ceefax/api.ErrMode", "ceefax/api.ErrNone"], plainKeys := false, apart := false, laid := [("ceefax/api.ErrRange", laid_ceefax_api_ErrRange), ("ceefax/api.ErrLength", laid_ceefax_api_ErrLength), ("ceefax/api.ErrBits", laid_ceefax_api_ErrBits), ("ceefax/api.ErrKind", laid_ceefax_api_ErrKind), ("ceefax/api.ErrNone", laid_ceefax_api_ErrNone), ("ceefax/api.ErrMode", laid_ceefax_api_ErrMode)], narrowed := true }
def WholeTwinsUptoSaid : Prop := wholeTwinsUptoRow.holds Tryz.pinned (OpenSpec.upto wholeTwinsSpec)

/-- 'ceefaxtop.WholeNational', WHERE WHAT IT READS IS OF BULK AT MOST 1048576: true; the input reads as it did. -/
def wholeNationalUptoRow : OpenClaim := { program := "ytbaenaalfpcaaaagreatdoor", sum := "b042adbe89469b6085dce8880d08ecc2550df82fdb1861282a84713ca0b36194", func := "ceefax/ceefaxtop.WholeNational", spec := "wholeNational", inPlace := ["internal/abi.NoEscape", "internal/bytealg.IndexByte"], unfollowed := true, recurses := true, named := ["ceefax/api.ErrRange", "ceefax/api.ErrKind", "ceefax/api.ErrLength", "ceefax/api.ErrBits", "ceefax/api.ErrMode", "ceefax/api.ErrNone"], plainKeys := false, apart := false, laid := [("ceefax/api.ErrRange", laid_ceefax_api_ErrRange), ("ceefax/api.ErrLength", laid_ceefax_api_ErrLength), ("ceefax/api.ErrBits", laid_ceefax_api_ErrBits), ("ceefax/api.ErrKind", laid_ceefax_api_ErrKind), ("ceefax/api.ErrNone", laid_ceefax_api_ErrNone), ("ceefax/api.ErrMode", laid_ceefax_api_ErrMode)], narrowed := true }
def WholeNationalUptoSaid : Prop := wholeNationalUptoRow.holds Tryz.pinned (OpenSpec.upto wholeNationalSpec)

/-- 'ceefaxtop.WholeTorn', WHERE WHAT IT READS IS OF BULK AT MOST 1048576: true; the input reads as it did. -/
def wholeTornUptoRow : OpenClaim := { program := "ytbaenaalfpcaaaagreatdoor", sum := "b042adbe89469b6085dce8880d08ecc2550df82fdb1861282a84713ca0b36194", func := "ceefax/ceefaxtop.WholeTorn", spec := "wholeTorn", inPlace := ["internal/abi.NoEscape", "internal/bytealg.IndexByte"], unfollowed := true, recurses := true, named := ["ceefax/api.ErrRange", "ceefax/api.ErrKind", "ceefax/api.ErrLength", "ceefax/api.ErrBits", "ceefax/api.ErrMode", "ceefax/api.ErrNone"], plainKeys := false, apart := false, laid := [("ceefax/api.ErrRange", laid_ceefax_api_ErrRange), ("ceefax/api.ErrLength", laid_ceefax_api_ErrLength), ("ceefax/api.ErrBits", laid_ceefax_api_ErrBits), ("ceefax/api.ErrKind", laid_ceefax_api_ErrKind), ("ceefax/api.ErrNone", laid_ceefax_api_ErrNone), ("ceefax/api.ErrMode", laid_ceefax_api_ErrMode)], narrowed := true }
def WholeTornUptoSaid : Prop := wholeTornUptoRow.holds Tryz.pinned (OpenSpec.upto wholeTornSpec)

/-- 'ceefaxtop.WholeLetters', WHERE WHAT IT READS IS OF BULK AT MOST 1048576: true; the input reads as it did. -/
def wholeLettersUptoRow : OpenClaim := { program := "ytbaenaalfpcaaaagreatdoor", sum := "b042adbe89469b6085dce8880d08ecc2550df82fdb1861282a84713ca0b36194", func := "ceefax/ceefaxtop.WholeLetters", spec := "wholeLetters", inPlace := ["internal/abi.NoEscape", "internal/bytealg.IndexByte"], unfollowed := true, recurses := true, named := ["ceefax/api.ErrRange", "ceefax/api.ErrKind", "ceefax/api.ErrLength", "ceefax/api.ErrBits", "ceefax/api.ErrMode", "ceefax/api.ErrNone"], plainKeys := false, apart := false, laid := [("ceefax/api.ErrRange", laid_ceefax_api_ErrRange), ("ceefax/api.ErrLength", laid_ceefax_api_ErrLength), ("ceefax/api.ErrBits", laid_ceefax_api_ErrBits), ("ceefax/api.ErrKind", laid_ceefax_api_ErrKind), ("ceefax/api.ErrNone", laid_ceefax_api_ErrNone), ("ceefax/api.ErrMode", laid_ceefax_api_ErrMode)], narrowed := true }
def WholeLettersUptoSaid : Prop := wholeLettersUptoRow.holds Tryz.pinned (OpenSpec.upto wholeLettersSpec)

/-- 'ceefaxtop.WholeBad', WHERE WHAT IT READS IS OF BULK AT MOST 1048576: true; the input reads as it did. -/
def wholeBadUptoRow : OpenClaim := { program := "ytbaenaalfpcaaaagreatdoor", sum := "b042adbe89469b6085dce8880d08ecc2550df82fdb1861282a84713ca0b36194", func := "ceefax/ceefaxtop.WholeBad", spec := "wholeBad", inPlace := ["internal/abi.NoEscape", "internal/bytealg.IndexByte"], unfollowed := true, recurses := true, named := ["ceefax/api.ErrRange", "ceefax/api.ErrKind", "ceefax/api.ErrLength", "ceefax/api.ErrBits", "ceefax/api.ErrMode", "ceefax/api.ErrNone"], plainKeys := false, apart := false, laid := [("ceefax/api.ErrRange", laid_ceefax_api_ErrRange), ("ceefax/api.ErrLength", laid_ceefax_api_ErrLength), ("ceefax/api.ErrBits", laid_ceefax_api_ErrBits), ("ceefax/api.ErrKind", laid_ceefax_api_ErrKind), ("ceefax/api.ErrNone", laid_ceefax_api_ErrNone), ("ceefax/api.ErrMode", laid_ceefax_api_ErrMode)], narrowed := true }
def WholeBadUptoSaid : Prop := wholeBadUptoRow.holds Tryz.pinned (OpenSpec.upto wholeBadSpec)

/-- 'ceefaxtop.WholeEcho', WHERE WHAT IT READS IS OF BULK AT MOST 1048576: true; the input reads as it did. -/
def wholeEchoUptoRow : OpenClaim := { program := "ytbaenaalfpcaaaagreatdoor", sum := "b042adbe89469b6085dce8880d08ecc2550df82fdb1861282a84713ca0b36194", func := "ceefax/ceefaxtop.WholeEcho", spec := "wholeEcho", inPlace := ["internal/abi.NoEscape", "internal/bytealg.IndexByte"], unfollowed := true, recurses := true, named := ["ceefax/api.ErrRange", "ceefax/api.ErrKind", "ceefax/api.ErrLength", "ceefax/api.ErrBits", "ceefax/api.ErrMode", "ceefax/api.ErrNone"], plainKeys := false, apart := false, laid := [("ceefax/api.ErrRange", laid_ceefax_api_ErrRange), ("ceefax/api.ErrLength", laid_ceefax_api_ErrLength), ("ceefax/api.ErrBits", laid_ceefax_api_ErrBits), ("ceefax/api.ErrKind", laid_ceefax_api_ErrKind), ("ceefax/api.ErrNone", laid_ceefax_api_ErrNone), ("ceefax/api.ErrMode", laid_ceefax_api_ErrMode)], narrowed := true }
def WholeEchoUptoSaid : Prop := wholeEchoUptoRow.holds Tryz.pinned (OpenSpec.upto wholeEchoSpec)

/-- 'ceefaxtop.WholeSame', WHERE WHAT IT READS IS OF BULK AT MOST 1048576: true; the input reads as it did. -/
def wholeSameUptoRow : OpenClaim := { program := "ytbaenaalfpcaaaagreatdoor", sum := "b042adbe89469b6085dce8880d08ecc2550df82fdb1861282a84713ca0b36194", func := "ceefax/ceefaxtop.WholeSame", spec := "wholeSame", inPlace := ["internal/abi.NoEscape", "internal/bytealg.IndexByte"], unfollowed := true, recurses := true, named := ["ceefax/api.ErrRange", "ceefax/api.ErrKind", "ceefax/api.ErrLength", "ceefax/api.ErrBits", "ceefax/api.ErrMode", "ceefax/api.ErrNone"], plainKeys := false, apart := false, laid := [("ceefax/api.ErrRange", laid_ceefax_api_ErrRange), ("ceefax/api.ErrLength", laid_ceefax_api_ErrLength), ("ceefax/api.ErrBits", laid_ceefax_api_ErrBits), ("ceefax/api.ErrKind", laid_ceefax_api_ErrKind), ("ceefax/api.ErrNone", laid_ceefax_api_ErrNone), ("ceefax/api.ErrMode", laid_ceefax_api_ErrMode)], narrowed := true }
def WholeSameUptoSaid : Prop := wholeSameUptoRow.holds Tryz.pinned (OpenSpec.upto wholeSameSpec)

end Rows
end Go.Proofs.YtbaenaalfpcaaaaGreatDoor
