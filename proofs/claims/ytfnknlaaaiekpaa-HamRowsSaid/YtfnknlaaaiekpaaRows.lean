/-
  No cell of these rows narrows 'for every input' (looked for: loops, veiled, ifaces, maps, wideKeys, modest, calm, conditions, laid).
  DERIVED. THE GIVEN ROWS OF THIS SEAT. 4 by the template 'for every input the law returns true; each argument reads behind the call as it read before'; 0 by the template 'total and deterministic' (their statements: YtfnknlaaaiekpaaTotals.lean).
  GIVEN WITH THE SEED: the statements are not yours to turn. If you find one false, say at which input.
  Laid BY PROGRAM, IN A SANDBOX (cutbox-rows.mjs): the forced cells as the released guide's own fill.sh prints them over the translation 826dcc439ae647e3… (all of the seat's roots in one cut). By AI agents, Wed Nov 11 2026. No macro, syntax, notation, axiom, sorry.
-/
import Derived.Test.YtfnknlaaaiekpaaChecked
import GoSem.Claim
import GoSem.ClaimJoined
import GoSem.ClaimMapViews
import Derived.JoinedTies
import Derived.KernelRfl
namespace Go.Proofs.Ytfnknlaaaiekpaa
/- THE CELL 'sum', in the pinned program and in every row, IS THE sha256 OF THE DUMP (.gsa) THAT YtfnknlaaaiekpaaProg.lean LOADS. Nothing in Lean hashes anything: it is a label: what it is worth is what the hold of that sum in a sandbox is worth. -/
noncomputable def Try.pinned : Pinned := { name := "ytfnknlaaaiekpaa", sum := "826dcc439ae647e3770d2051d799c02b4059510673cd60c0afdf17a72fa918ce", checked := Try.checked }
namespace Rows
def none {H : Type} : Left H := { results := [], args := [] }

/-- 'ceefaxlaw2.HamFar': WHATEVER THE INPUT: true; the input reads as it did. -/
def hamFarSpec : ChangeSpec := { name := "hamFar", fn := fun _ => fun
  | [d1, d2] => { results := [.lit (.bool true)], args := [d1, d2] }
  | _ => none }
def hamFarRow : OpenClaim := { program := "ytfnknlaaaiekpaa", sum := "826dcc439ae647e3770d2051d799c02b4059510673cd60c0afdf17a72fa918ce", func := "ceefax/ceefaxlaw2.HamFar", spec := "hamFar", unfollowed := true, recurses := true, apart := false }
def HamFarSaid : Prop := hamFarRow.holds Try.pinned (OpenSpec.ofChange hamFarSpec)

/-- ITS FALSE NEIGHBOUR: 'it returns false'. Refute it at one input. -/
def hamFarWrong : ChangeSpec := { name := "hamFar", fn := fun _ => fun
  | [d1, d2] => { results := [.lit (.bool false)], args := [d1, d2] }
  | _ => none }
def HamFarWrongFalsely : Prop := hamFarRow.holds Try.pinned (OpenSpec.ofChange hamFarWrong)

/-- 'ceefaxlaw2.HamMends': WHATEVER THE INPUT: true; the input reads as it did. -/
def hamMendsSpec : ChangeSpec := { name := "hamMends", fn := fun _ => fun
  | [d1, d2, d3] => { results := [.lit (.bool true)], args := [d1, d2, d3] }
  | _ => none }
def hamMendsRow : OpenClaim := { program := "ytfnknlaaaiekpaa", sum := "826dcc439ae647e3770d2051d799c02b4059510673cd60c0afdf17a72fa918ce", func := "ceefax/ceefaxlaw2.HamMends", spec := "hamMends", unfollowed := true, recurses := true, apart := false }
def HamMendsSaid : Prop := hamMendsRow.holds Try.pinned (OpenSpec.ofChange hamMendsSpec)

/-- ITS FALSE NEIGHBOUR: 'it returns false'. Refute it at one input. -/
def hamMendsWrong : ChangeSpec := { name := "hamMends", fn := fun _ => fun
  | [d1, d2, d3] => { results := [.lit (.bool false)], args := [d1, d2, d3] }
  | _ => none }
def HamMendsWrongFalsely : Prop := hamMendsRow.holds Try.pinned (OpenSpec.ofChange hamMendsWrong)

/-- 'ceefaxlaw2.HamSays': WHATEVER THE INPUT: true; the input reads as it did. -/
def hamSaysSpec : ChangeSpec := { name := "hamSays", fn := fun _ => fun
  | [d1, d2, d3, d4] => { results := [.lit (.bool true)], args := [d1, d2, d3, d4] }
  | _ => none }
def hamSaysRow : OpenClaim := { program := "ytfnknlaaaiekpaa", sum := "826dcc439ae647e3770d2051d799c02b4059510673cd60c0afdf17a72fa918ce", func := "ceefax/ceefaxlaw2.HamSays", spec := "hamSays", unfollowed := true, recurses := true, apart := false }
def HamSaysSaid : Prop := hamSaysRow.holds Try.pinned (OpenSpec.ofChange hamSaysSpec)

/-- ITS FALSE NEIGHBOUR: 'it returns false'. Refute it at one input. -/
def hamSaysWrong : ChangeSpec := { name := "hamSays", fn := fun _ => fun
  | [d1, d2, d3, d4] => { results := [.lit (.bool false)], args := [d1, d2, d3, d4] }
  | _ => none }
def HamSaysWrongFalsely : Prop := hamSaysRow.holds Try.pinned (OpenSpec.ofChange hamSaysWrong)

/-- 'ceefaxlaw2.HamRows': WHATEVER THE INPUT: true; the input reads as it did. -/
def hamRowsSpec : ChangeSpec := { name := "hamRows", fn := fun _ => fun
  | [d1, d2, d3] => { results := [.lit (.bool true)], args := [d1, d2, d3] }
  | _ => none }
def hamRowsRow : OpenClaim := { program := "ytfnknlaaaiekpaa", sum := "826dcc439ae647e3770d2051d799c02b4059510673cd60c0afdf17a72fa918ce", func := "ceefax/ceefaxlaw2.HamRows", spec := "hamRows", unfollowed := true, recurses := true, apart := false }
def HamRowsSaid : Prop := hamRowsRow.holds Try.pinned (OpenSpec.ofChange hamRowsSpec)

/-- ITS FALSE NEIGHBOUR: 'it returns false'. Refute it at one input. -/
def hamRowsWrong : ChangeSpec := { name := "hamRows", fn := fun _ => fun
  | [d1, d2, d3] => { results := [.lit (.bool false)], args := [d1, d2, d3] }
  | _ => none }
def HamRowsWrongFalsely : Prop := hamRowsRow.holds Try.pinned (OpenSpec.ofChange hamRowsWrong)

/- THE SECOND FORM. 'bulk': how many values and letters a reading holds, each counted each time it is reached (what is shared counts as often as it is met; a slice's spare places count too). A statement '..UptoSaid' is the law's where the arguments, and the package variables that the reading takes, are together of bulk at most 1048576: NARROWER than '..Said'. Prove '..Said' where nothing that the law and all that it calls make is longer than what came in: it says more and counts as full. Else prove '..UptoSaid'. A law counts once. -/
mutual
def uptoBulk {H : Type} : DataW H → Nat
  | .lit (.string bytes) => bytes.length + 1
  | .lit _ => 1
  | .nil => 1
  | .ptr d => uptoBulk d + 1
  | .slice elems spare => uptoBulkAll elems + uptoBulkAll spare + 1
  | .agg parts => uptoBulkAll parts + 1
  | .iface _ d => uptoBulk d + 1
  | .map entries => uptoBulkEntries entries + 1
  | .held _ => 1
def uptoBulkAll {H : Type} : List (DataW H) → Nat
  | [] => 0
  | d :: r => uptoBulk d + uptoBulkAll r
def uptoBulkEntries {H : Type} : List (Lit × DataW H) → Nat
  | [] => 0
  | x :: r => uptoBulkEntry x + uptoBulkEntries r
def uptoBulkEntry {H : Type} : Lit × DataW H → Nat
  | (.string bytes, d) => bytes.length + uptoBulk d + 1
  | (_, d) => uptoBulk d + 1
 end
def uptoSmall : (H : Type) → List (DataW H) → Bool := fun _ ds => decide (uptoBulkAll ds ≤ 1048576)
def OpenSpec.upto (s : _root_.Go.ChangeSpec) : _root_.Go.OpenSpec := { _root_.Go.OpenSpec.ofChange s with cond := some uptoSmall }

/-- 'ceefaxlaw2.HamFar', WHERE WHAT IT READS IS OF BULK AT MOST 1048576: true; the input reads as it did. -/
def hamFarUptoRow : OpenClaim := { program := "ytfnknlaaaiekpaa", sum := "826dcc439ae647e3770d2051d799c02b4059510673cd60c0afdf17a72fa918ce", func := "ceefax/ceefaxlaw2.HamFar", spec := "hamFar", unfollowed := true, recurses := true, apart := false, narrowed := true }
def HamFarUptoSaid : Prop := hamFarUptoRow.holds Try.pinned (OpenSpec.upto hamFarSpec)

/-- 'ceefaxlaw2.HamMends', WHERE WHAT IT READS IS OF BULK AT MOST 1048576: true; the input reads as it did. -/
def hamMendsUptoRow : OpenClaim := { program := "ytfnknlaaaiekpaa", sum := "826dcc439ae647e3770d2051d799c02b4059510673cd60c0afdf17a72fa918ce", func := "ceefax/ceefaxlaw2.HamMends", spec := "hamMends", unfollowed := true, recurses := true, apart := false, narrowed := true }
def HamMendsUptoSaid : Prop := hamMendsUptoRow.holds Try.pinned (OpenSpec.upto hamMendsSpec)

/-- 'ceefaxlaw2.HamSays', WHERE WHAT IT READS IS OF BULK AT MOST 1048576: true; the input reads as it did. -/
def hamSaysUptoRow : OpenClaim := { program := "ytfnknlaaaiekpaa", sum := "826dcc439ae647e3770d2051d799c02b4059510673cd60c0afdf17a72fa918ce", func := "ceefax/ceefaxlaw2.HamSays", spec := "hamSays", unfollowed := true, recurses := true, apart := false, narrowed := true }
def HamSaysUptoSaid : Prop := hamSaysUptoRow.holds Try.pinned (OpenSpec.upto hamSaysSpec)

/-- 'ceefaxlaw2.HamRows', WHERE WHAT IT READS IS OF BULK AT MOST 1048576: true; the input reads as it did. -/
def hamRowsUptoRow : OpenClaim := { program := "ytfnknlaaaiekpaa", sum := "826dcc439ae647e3770d2051d799c02b4059510673cd60c0afdf17a72fa918ce", func := "ceefax/ceefaxlaw2.HamRows", spec := "hamRows", unfollowed := true, recurses := true, apart := false, narrowed := true }
def HamRowsUptoSaid : Prop := hamRowsUptoRow.holds Try.pinned (OpenSpec.upto hamRowsSpec)

end Rows
end Go.Proofs.Ytfnknlaaaiekpaa
